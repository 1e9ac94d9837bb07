/-
 Chapter 8, walks: small ones, words.
-/
import Derived.Test.YtgcmppghjfidfaaGreatDoorVB8
import Derived.Test.YtgcmppghjfidfaaGreatDoorVCut
import Derived.Test.YtgcmppghjfidfaaGreatDoorVPure
import Derived.Shelf.Strings.FuncGrows
import Derived.Laws.RangeString
import Derived.Test.YtgcmppghjfidfaaGreatDoorVGlob
import Derived.Test.YtgcmppghjfidfaaGreatDoorVGlobI
import Derived.Shelf.Strings.Split
import Derived.Shelf.Strings.Search3
import Derived.Lib.LaidTab
import Derived.WalkKit
set_option linter.unusedSimpArgs false
set_option linter.unusedVariables false
namespace Go.Proofs.YtgcmppghjfidfaaGreatDoor
open Go Go.Vx
set_option maxRecDepth 20000
theorem within_s (n lo hi : Int) : Ctr Tryz.prog 72 [(.v (.int .i64 n)), (.v (.int .i64 lo)), (.v (.int .i64 hi))] (fun rr => rr = ⟨(.v (.bool (decide (lo ≤ n ∧ n ≤ hi)))), []⟩) := by
 refine Ctr.of (rs := [.tmp 6]) Tok true Tryz.func72 rfl rfl rfl rfl (by simp [ofDL]) (fun w0 kp => ?_)
 simp only [↓sx0, xE, sevalprocAttr]
 refine BrW.dec (fun h => ?_) (fun h => ?_)
 ·simp only [↓sx0, xE, sevalprocAttr]
  refine EndW.fn ?_ ?_ <;> simp only [sx4, xK, sevalprocAttr] <;> (try simp [h]) <;> (try omega)
 ·simp only [↓sx0, xE, sevalprocAttr]
  refine EndW.fn ?_ ?_ <;> simp only [sx4, xK, sevalprocAttr] <;> (try simp [h]) <;> (try omega)
theorem withinT_s (n lo hi : Int) : Ctr Tryz.prog 126 [(.v (.int .i64 n)), (.v (.int .i64 lo)), (.v (.int .i64 hi))] (fun rr => rr = ⟨(.v (.bool (decide (lo ≤ n ∧ n ≤ hi)))), []⟩) := by
 refine Ctr.of (rs := [.tmp 6]) Tok true Tryz.func126 rfl rfl rfl rfl (by simp [ofDL]) (fun w0 kp => ?_)
 simp only [↓sx0, xE, sevalprocAttr]
 refine BrW.dec (fun h => ?_) (fun h => ?_)
 ·simp only [↓sx0, xE, sevalprocAttr]
  refine EndW.fn ?_ ?_ <;> simp only [sx4, xK, sevalprocAttr] <;> (try simp [h]) <;> (try omega)
 ·simp only [↓sx0, xE, sevalprocAttr]
  refine EndW.fn ?_ ?_ <;> simp only [sx4, xK, sevalprocAttr] <;> (try simp [h]) <;> (try omega)
theorem withinB_s (n lo hi : Int) : Ctr Tryz.prog 16 [(.v (.int .i64 n)), (.v (.int .i64 lo)), (.v (.int .i64 hi))] (fun rr => rr = ⟨(.v (.bool (decide (lo ≤ n ∧ n ≤ hi)))), []⟩) := by
 refine Ctr.of (rs := [.tmp 6]) Tok true Tryz.func16 rfl rfl rfl rfl (by simp [ofDL]) (fun w0 kp => ?_)
 simp only [↓sx0, xE, sevalprocAttr]
 refine BrW.dec (fun h => ?_) (fun h => ?_)
 ·simp only [↓sx0, xE, sevalprocAttr]
  refine EndW.fn ?_ ?_ <;> simp only [sx4, xK, sevalprocAttr] <;> (try simp [h]) <;> (try omega)
 ·simp only [↓sx0, xE, sevalprocAttr]
  refine EndW.fn ?_ ?_ <;> simp only [sx4, xK, sevalprocAttr] <;> (try simp [h]) <;> (try omega)
theorem isKind_s (n : Int) : Ctr Tryz.prog 153 [(.v (.int .i64 n))] (fun rr => rr = ⟨(.v (.bool (decide (1 ≤ n ∧ n ≤ 3)))), []⟩) := by
 refine Ctr.of (rs := [.tmp 2]) Tok true Tryz.func153 rfl rfl rfl rfl (by simp [ofDL]) (fun w0 kp => ?_)
 simp only [↓sx0, xE, sevalprocAttr]
 refine CallI.fn (within_s n 1 3) (by simp only [sx3, xR, sevalprocAttr] <;> (try simp) <;> (try rfl)) ?_
 simp only [↓sx0, xE, sevalprocAttr]
 refine EndW.fn ?_ ?_ <;> simp only [sx4, xK, sevalprocAttr] <;> (try simp) <;> (try omega)
theorem isMark_s (s : ByteArray) : Ctr Tryz.prog 129 [(.v (.string (s)))] (fun rr => rr = ⟨(.v (.bool (isMk s))), []⟩) := by
 refine Ctr.of (rs := [.tmp 2]) Tok true Tryz.func129 rfl rfl rfl rfl (by simp [ofDL]) (fun w0 kp => ?_)
 simp only [↓sx0, xE, sevalprocAttr]
 refine BrW.dec (fun h => ?_) (fun h => ?_)
 ·simp only [↓sx0, xE, sevalprocAttr]
  have : isMk s = true := by unfold isMk; rw [decide_eq_true (show s = hash from h)]; rfl
  refine EndW.fn ?_ ?_ <;> simp only [sx4, xK, sevalprocAttr] <;> (try simp [this]) <;> (try omega)
 ·simp only [↓sx0, xE, sevalprocAttr]
  have : isMk s = decide (s = ⟨#[94]⟩) := by unfold isMk; rw [decide_eq_false (show ¬ s = hash from h)]; rfl
  refine EndW.fn ?_ ?_ <;> simp only [sx4, xK, sevalprocAttr] <;> (try simp [this]) <;> (try omega)
theorem bytesD_eq (s : ByteArray) : bytesD s = s.data.toList.map fun b => [.v (.int .u8 (b.toNat : Int))] := rfl
theorem bytesD_len (s : ByteArray) : (bytesD s).length = s.size := by simp [bytesD]
theorem isWord_s (s : ByteArray) (hs : s.size ≤ 1000000000) : Ctr Tryz.prog 152 [(.v (.string (s)))] (fun rr => rr = ⟨(.v (.bool (isWd s))), []⟩) := by
 refine Ctr.of (rs := [.tmp 2]) Tok true Tryz.func152 rfl rfl rfl rfl (by simp [ofDL]) (fun w0 kp => ?_)
 simp only [↓sx0, xE, sevalprocAttr]
 rw [bytesD_len]
 refine LoopW.comp [0, 6, 7, 8] (by simp only [sx2, xR, sevalprocAttr] <;> (try simp) <;> (try omega)) ?_
 simp only [sx2, sxR, sevalprocAttr]
 refine LoopW.up Tok (fun k : Nat => [(8, (.v (.int .i64 k)))]) (fun k => []) (fun k => []) (fun k => []) (fun k => k ≤ s.size ∧ (s.data.toList.take k).all okB = true) (fun k => s.size - k) (0) (by simp only [sx2, xR, sevalprocAttr] <;> (try simp) <;> (try omega)) ?_ ?_
 ·exact ⟨by omega, by simp⟩
 rintro k ⟨hk, ht⟩
 simp only [↓sx0, xE, sevalprocAttr]
 refine BrW.dec (fun hlt => ?_) (fun hlt => ?_)
 ·simp only [↓sx0, xE, sevalprocAttr]
  have hlt : k < s.size := by omega
  have hl : k < s.data.toList.length := by simpa using hlt
  rw [bytesD_eq]
  refine IxW.nat hl ?_
  simp only [↓sx0, xE, sevalprocAttr]
  have nxt := take_all_succ hl ht
  have bad := bytesOk_bad (s := s) hl
  generalize hcc : s.data.toList[k] = c at nxt bad ⊢
  clear hcc
  refine BrW.dec (fun h1 => ?_) (fun h1 => ?_)
  ·simp only [↓sx0, xE, sevalprocAttr]
   have : isWd s = false := by rw [isWd, bad (by simp [okB]; omega)]; rfl
   refine EndW.fn ?_ ?_ <;> simp only [sx4, xK, sevalprocAttr] <;> (try simp [this]) <;> (try omega)
  ·simp only [↓sx0, xE, sevalprocAttr]
   refine BrW.dec (fun h2 => ?_) (fun h2 => ?_)
   ·simp only [↓sx0, xE, sevalprocAttr]
    have : isWd s = false := by rw [isWd, bad (by simp [okB]; omega)]; rfl
    refine EndW.fn ?_ ?_ <;> simp only [sx4, xK, sevalprocAttr] <;> (try simp [this]) <;> (try omega)
   ·simp only [↓sx0, xE, sevalprocAttr]
    (with_reducible refine Vc.go ?_ fun _ => ?_); focus (first | omega | (simp only [InK]; omega) | (simp [InK] <;> omega))
    simp only [↓sx0, xE, sevalprocAttr]
    refine ⟨k + 1, StLe.auto (by simp only [sx2, xR, sevalprocAttr] <;> (try simp) <;> (try omega)), ?_, ?_⟩
    ·exact ⟨by omega, nxt (by simp [okB]; omega)⟩
    ·omega
 ·simp only [↓sx0, xE, sevalprocAttr]
  have hke : k = s.size := by omega
  subst hke
  refine CallI.fn (within_s (s.size : Int) 1 30) (by simp only [sx3, xR, sevalprocAttr] <;> (try simp) <;> (try rfl)) ?_
  simp only [↓sx0, xE, sevalprocAttr]
  have : isWd s = decide ((1 : Int) ≤ (s.size : Int) ∧ (s.size : Int) ≤ 30) := by
   rw [isWd, bytesOk, ← List.take_length (l := s.data.toList), show s.data.toList.length = s.size by simp, ht, Bool.true_and, decide_eq_decide]; omega
  refine EndW.fn ?_ ?_ <;> simp only [sx4, xK, sevalprocAttr] <;> (try simp [this]) <;> (try omega)
theorem isByteR_s (c : UInt8) : Ctr Tryz.prog 70 [.v (.int .u8 (c.toNat : Int))] (fun rr => rr = ⟨(.v (.bool (okB c))), []⟩) := by
 refine Ctr.of (rs := [.tmp 2]) Tok true Tryz.func70 rfl rfl rfl rfl (by simp [ofDL]) (fun w0 kp => ?_)
 simp only [↓sx0, xE, sevalprocAttr]
 refine BrW.dec (fun h => ?_) (fun h => ?_)
 ·simp only [↓sx0, xE, sevalprocAttr]
  have : okB c = decide ((c.toNat : Int) ≤ 126) := by unfold okB; rw [decide_eq_decide]; omega
  refine EndW.fn ?_ ?_ <;> simp only [sx4, xK, sevalprocAttr] <;> (try simp [this]) <;> (try omega)
 ·simp only [↓sx0, xE, sevalprocAttr]
  have : okB c = false := by unfold okB; rw [decide_eq_false_iff_not]; omega
  refine EndW.fn ?_ ?_ <;> simp only [sx4, xK, sevalprocAttr] <;> (try simp [this]) <;> (try omega)
end Go.Proofs.YtgcmppghjfidfaaGreatDoor
/-
  Chapter 1, walks: names (the reference and the program).
-/
namespace Go.Proofs.YtgcmppghjfidfaaGreatDoor
open Go Go.Vx
set_option maxRecDepth 20000
def ltB (c : UInt8) : Bool := decide ((97 ≤ c.toNat ∧ c.toNat ≤ 122) ∨ (65 ≤ c.toNat ∧ c.toNat ≤ 90))
def dgB (c : UInt8) : Bool := decide (c.toNat = 45 ∨ (48 ≤ c.toNat ∧ c.toNat ≤ 57))
def nmX (i : Nat) (c : UInt8) : Bool := ltB c || (decide (i ≠ 0) && dgB c)
def nmY : Nat → List UInt8 → Bool
  | _, [] => true
  | i, c :: l => nmX i c && nmY (i + 1) l
def namB (s : ByteArray) : Bool := decide (1 ≤ s.size ∧ s.size ≤ 12) && nmY 0 s.data.toList
theorem nmY_at {l : List UInt8} {k : Nat} (h : k < l.length) : nmY k (l.drop k) = (nmX k l[k] && nmY (k + 1) (l.drop (k + 1))) := by
  rw [List.drop_eq_getElem_cons h]; rfl
set_option maxHeartbeats 4000000 in
theorem isNameR_s (s : ByteArray) (hs : s.size ≤ 1000000000) : Ctr Tryz.prog 86 [(.v (.string (s)))] (fun rr => rr = ⟨(.v (.bool (namB s))), []⟩) := by
  refine Ctr.of (rs := [.tmp 2]) Tok true Tryz.func86 rfl rfl rfl rfl (by simp [ofDL]) (fun w0 kp => ?_)
  simp only [↓sx0, xE, sevalprocAttr]
  by_cases hsz : 1 ≤ s.size ∧ s.size ≤ 12
  · repeat ((first | (with_reducible refine BrW.yes (by omega) ?_) | (with_reducible refine BrW.no (by omega) ?_)); (try simp only [↓sx0, xE, sevalprocAttr]))
    refine LoopW.comp [0, 3] (by simp only [sx2, xR, sevalprocAttr] <;> (try simp) <;> (try omega)) ?_
    simp only [sx2, sxR, sevalprocAttr]
    refine LoopW.up Tok (fun k : Nat => [(3, (.v (.int .i64 k)))]) (fun k => []) (fun k => []) (fun k => []) (fun k => k ≤ s.size ∧ nmY k (s.data.toList.drop k) = nmY 0 s.data.toList) (fun k => s.size - k) (0) (by simp only [sx2, xR, sevalprocAttr] <;> (try simp) <;> (try omega)) ?_ ?_
    · exact ⟨by omega, rfl⟩
    rintro k ⟨hk, ht⟩
    simp only [↓sx0, xE, sevalprocAttr]
    refine BrW.dec (fun hlt => ?_) (fun hlt => ?_)
    · simp only [↓sx0, xE, sevalprocAttr]
      have hlt : k < s.size := by omega
      have hl : k < s.data.toList.length := by simpa using hlt
      refine StrIx.nat hlt ?_
      have hat := nmY_at hl
      have hce : s[k] = s.data.toList[k] := rfl
      rw [hce]
      generalize hcc : s.data.toList[k] = c at hat ⊢
      clear hcc hce
      have hc2 := c.toNat_lt
      simp only [↓sx0, xE, sevalprocAttr]
      have hX : nmX k c = decide (((97 ≤ c.toNat ∧ c.toNat ≤ 122) ∨ (65 ≤ c.toNat ∧ c.toNat ≤ 90)) ∨ (k ≠ 0 ∧ (c.toNat = 45 ∨ (48 ≤ c.toNat ∧ c.toNat ≤ 57)))) := by
        simp [nmX, ltB, dgB]
      repeat' (first | (with_reducible refine BrW.yes (by omega) ?_) | (with_reducible refine BrW.no (by omega) ?_) | (with_reducible refine BrW.dec (fun _ => ?_) (fun _ => ?_)) | simp only [↓sx0, xE, sevalprocAttr])
      all_goals first
        | (have hx : nmX k c = false := by rw [hX, decide_eq_false_iff_not]; omega
           have : namB s = false := by rw [namB, ← ht, hat, hx]; simp
           refine EndW.fn ?_ ?_ <;> simp only [sx4, xK, sevalprocAttr] <;> (try simp [this]) <;> (try omega)
           done)
        | (have hx : nmX k c = true := by rw [hX, decide_eq_true_iff]; omega
           (with_reducible refine Vc.go ?_ fun _ => ?_); focus (first | omega | (simp only [InK]; omega) | (simp [InK] <;> omega))
           simp only [↓sx0, xE, sevalprocAttr]
           rw [hat, hx, Bool.true_and] at ht
           refine ⟨k + 1, StLe.auto (by simp only [sx2, xR, sevalprocAttr] <;> (try simp) <;> (try omega)), ?_, ?_⟩
           · exact ⟨by omega, ht⟩
           · omega
           done)
    · simp only [↓sx0, xE, sevalprocAttr]
      have hke : k = s.size := by omega
      subst hke
      rw [show s.data.toList.drop s.size = [] by simp] at ht
      have : namB s = true := by rw [namB, ← ht]; simp [nmY]; omega
      refine EndW.fn ?_ ?_ <;> simp only [sx4, xK, sevalprocAttr] <;> (try simp [this]) <;> (try omega)
  · have : namB s = false := by rw [namB, decide_eq_false hsz]; rfl
    repeat' (first | (with_reducible refine BrW.yes (by omega) ?_) | (with_reducible refine BrW.no (by omega) ?_) | (with_reducible refine BrW.dec (fun _ => ?_) (fun _ => ?_)) | simp only [↓sx0, xE, sevalprocAttr])
    all_goals (refine EndW.fn ?_ ?_ <;> simp only [sx4, xK, sevalprocAttr] <;> (try simp [this]) <;> (try omega))
end Go.Proofs.YtgcmppghjfidfaaGreatDoor
/-
  Chapter 1, walks: founts are checked (the reference; that it answers is all that is told).
-/
namespace Go.Proofs.YtgcmppghjfidfaaGreatDoor
open Go Go.Vx
set_option maxRecDepth 20000
structure Srt where
  name : ByteArray
  text : ByteArray
  kind : Int
  width : Int
  deriving DecidableEq
def eT (s : Srt) : List D := [(.v (.string (s.name))), (.v (.string (s.text))), (.v (.int .i64 s.kind)), (.v (.int .i64 s.width))]
theorem eT_def : ∀ s, eT s = [.v (.string s.name), .v (.string s.text), .v (.int .i64 s.kind), .v (.int .i64 s.width)] := fun _ => rfl
def SrtOk (s : Srt) : Prop := s.name.size ≤ 1000000000 ∧ s.text.size ≤ 1000000000
theorem EndI {n : Int} {rw : List Rw} {post : Ret → Prop} (h : post ⟨(.v (.int .i64 n)), []⟩) : EndW (.v (.int .i64 n)) rw post ⟨⟩ := EndW.p _ h (by simp [leV]) (by simp [kpV])
theorem EndB {n : Bool} {rw : List Rw} {post : Ret → Prop} (h : post ⟨(.v (.bool (n))), []⟩) : EndW (.v (.bool (n))) rw post ⟨⟩ := EndW.p _ h (by simp [leV]) (by simp [kpV])
def AnyI (rr : Ret) : Prop := ∃ e : Int, rr = ⟨(.v (.int .i64 e)), []⟩
def NamP (l : List Srt) (n : ByteArray) (rr : Ret) : Prop := ∃ e : Int, rr = ⟨(.v (.int .i64 e)), []⟩ ∧ (e < 0 → ∀ j (h : j < l.length), l[j].name ≠ n)
theorem named_s (b : Bool) (l : List Srt) (n : ByteArray) (hl : l.length ≤ 1000000) : Ctr Tryz.prog 87 [.sl b 4 (l.map eT), (.v (.string (n)))] (NamP l n) := by
  have encs := And.intro encs eT_def
  refine Ctr.of (rs := [.tmp 4]) Tok true Tryz.func87 rfl rfl rfl rfl (by simp [ofDL]) (fun w0 kp => ?_)
  simp only [↓sx0, sxE, encs, sevalprocAttr]
  refine LoopW.comp [0, 1, 5] (by simp only [sx2, encs, sxR, sevalprocAttr] <;> (try simp) <;> (try omega)) ?_
  simp only [sx2, sxR, sevalprocAttr]
  refine LoopW.up Tok (fun k : Nat => [(5, (.v (.int .i64 k)))]) (fun k => []) (fun k => []) (fun k => []) (fun k => k ≤ l.length ∧ ∀ j (_ : j < k) (h : j < l.length), l[j].name ≠ n) (fun k => l.length - k) (0) (by simp only [sx2, encs, sxR, sevalprocAttr] <;> (try simp) <;> (try omega)) ?_ ?_
  · exact ⟨by omega, fun j h => by omega⟩
  rintro k ⟨hk, hb⟩
  simp only [↓sx0, sxE, encs, sevalprocAttr]
  refine BrW.dec (fun hlt => ?_) (fun hlt => ?_)
  · simp only [↓sx0, sxE, encs, sevalprocAttr]
    have hl2 : k < l.length := by omega
    refine IxW.nat hl2 ?_
    simp only [↓sx0, sxE, encs, sevalprocAttr]
    refine BrW.dec (fun he => ?_) (fun he => ?_)
    · simp only [↓sx0, sxE, encs, sevalprocAttr]
      exact EndI ⟨_, rfl, fun h => by omega⟩
    · simp only [↓sx0, sxE, encs, sevalprocAttr]
      (with_reducible refine Vc.go ?_ fun _ => ?_); focus (first | omega | (simp only [InK]; omega) | (simp [InK] <;> omega))
      simp only [↓sx0, sxE, encs, sevalprocAttr]
      refine ⟨k + 1, StLe.auto (by simp only [sx2, encs, sxR, sevalprocAttr] <;> (try simp) <;> (try omega)), ?_, ?_⟩
      · refine ⟨by omega, fun j h h2 => ?_⟩
        by_cases hjk : j = k
        · subst hjk; exact he
        · exact hb j (by omega) h2
      · omega
  · simp only [↓sx0, sxE, encs, sevalprocAttr]
    exact EndI ⟨_, rfl, fun _ j h => hb j (by omega) h⟩
def PrOk (kd : Int) (t : ByteArray) : Prop := (kd = 1 → t.size = 1) ∧ (kd = 2 → 2 ≤ t.size ∧ t.size ≤ 4) ∧ (kd ≠ 1 → kd ≠ 2 → t.size = 0) ∧ ∀ j (h : j < t.size), okB t[j] = true
def NoClash (l : List Srt) (kd : Int) (t : ByteArray) : Prop := kd ≠ 3 → ∀ j (h : j < l.length), l[j].kind ≠ 3 → l[j].text ≠ t
def PrsP (l : List Srt) (kd : Int) (t : ByteArray) (rr : Ret) : Prop := ∃ e : Int, rr = ⟨(.v (.int .i64 e)), []⟩ ∧ (e = 0 → PrOk kd t ∧ NoClash l kd t)
set_option maxHeartbeats 4000000 in
theorem printsErr_s (b : Bool) (l : List Srt) (kd : Int) (t : ByteArray) (hl : l.length ≤ 1000000) (ht : t.size ≤ 1000000000) : Ctr Tryz.prog 88 [.sl b 4 (l.map eT), (.v (.int .i64 kd)), (.v (.string (t)))] (PrsP l kd t) := by
  have encs := And.intro encs eT_def
  have hW : ∀ lo hi : Int, Ctr Tryz.prog 16 [(.v (.int .i64 ((t.size : Int)))), (.v (.int .i64 lo)), (.v (.int .i64 hi))] (fun rr => rr = ⟨(.v (.bool (decide (lo ≤ (t.size : Int) ∧ (t.size : Int) ≤ hi)))), []⟩) := fun lo hi => withinB_s _ _ _
  refine Ctr.of (rs := [.tmp 6]) Tok true Tryz.func88 rfl rfl rfl rfl (by simp [ofDL]) (fun w0 kp => ?_)
  simp only [↓sx0, sxE, encs, sevalprocAttr]
  repeat' (first | (with_reducible refine BrW.yes (by omega) ?_) | (with_reducible refine BrW.no (by omega) ?_) | (with_reducible refine BrW.dec (fun h1 => ?_) (fun h1 => ?_)) | (with_reducible refine BrW.of (fun hb => ?_) (fun hb => ?_)) | simp only [↓sx0, sxE, encs, sevalprocAttr] | (refine CallI.fn (hW 1 1) ?_ ?_; (focus ((simp only [sx3, encs, sxR, sevalprocAttr] <;> (try simp) <;> (try rfl)); done))) | (refine CallI.fn (hW 2 4) ?_ ?_; (focus ((simp only [sx3, encs, sxR, sevalprocAttr] <;> (try simp) <;> (try rfl)); done))) | (refine CallI.fn (hW 0 0) ?_ ?_; (focus ((simp only [sx3, encs, sxR, sevalprocAttr] <;> (try simp) <;> (try rfl)); done))))
  all_goals try exact EndI ⟨_, rfl, fun h => by omega⟩
  all_goals
    have hsz : (kd = 1 → t.size = 1) ∧ (kd = 2 → 2 ≤ t.size ∧ t.size ≤ 4) ∧ (kd ≠ 1 → kd ≠ 2 → t.size = 0) := by
      omega
    refine LoopW.comp [0, 1, 2, 9] (by simp only [sx2, encs, sxR, sevalprocAttr] <;> (try simp) <;> (try omega)) ?_
    simp only [sx2, sxR, sevalprocAttr]
    refine LoopW.up Tok (fun k : Nat => [(9, (.v (.int .i64 k)))]) (fun k => []) (fun k => []) (fun k => []) (fun k => k ≤ t.size ∧ ∀ j (_ : j < k) (h : j < t.size), okB t[j] = true) (fun k => t.size - k) (0) (by simp only [sx2, encs, sxR, sevalprocAttr] <;> (try simp) <;> (try omega)) ?_ ?_
    · exact ⟨by omega, fun j h => by omega⟩
    rintro k ⟨hk, hok⟩
    simp only [↓sx0, sxE, encs, sevalprocAttr]
    refine BrW.dec (fun hlt => ?_) (fun hlt => ?_)
    · simp only [↓sx0, sxE, encs, sevalprocAttr]
      have hl2 : k < t.size := by omega
      refine StrIx.nat hl2 ?_
      repeat' (first | (refine StrIx.nat hl2 ?_) | (with_reducible refine BrW.dec (fun _ => ?_) (fun _ => ?_)) | simp only [↓sx0, sxE, encs, sevalprocAttr] | ((with_reducible refine Vc.go ?_ fun _ => ?_); (focus (first | omega | (simp only [InK]; omega)))))
      all_goals first
        | exact EndI ⟨_, rfl, fun h => by omega⟩
        | (refine ⟨k + 1, StLe.auto (by simp only [sx2, encs, sxR, sevalprocAttr] <;> (try simp) <;> (try omega)), ?_, ?_⟩
           · refine ⟨by omega, fun j h h2 => ?_⟩
             by_cases hjk : j = k
             · subst hjk; simp only [okB, decide_eq_true_eq]; omega
             · exact hok j (by omega) h2
           · omega
           done)
    · simp only [↓sx0, sxE, encs, sevalprocAttr]
      have hpr : PrOk kd t := ⟨hsz.1, hsz.2.1, hsz.2.2, fun j h => hok j (by omega) h⟩
      skip
      refine LoopW.comp [0, 1, 2, 10] (by simp only [sx2, encs, sxR, sevalprocAttr] <;> (try simp) <;> (try omega)) ?_
      simp only [sx2, sxR, sevalprocAttr]
      refine LoopW.up Tok (fun j : Nat => [(10, (.v (.int .i64 j)))]) (fun j => []) (fun j => []) (fun j => []) (fun j => j ≤ l.length ∧ (kd ≠ 3 → ∀ i (_ : i < j) (h : i < l.length), l[i].kind ≠ 3 → l[i].text ≠ t)) (fun j => l.length - j) (0) (by simp only [sx2, encs, sxR, sevalprocAttr] <;> (try simp) <;> (try omega)) ?_ ?_
      · exact ⟨by omega, fun _ i h => by omega⟩
      rintro j ⟨hj, hcl⟩
      simp only [↓sx0, sxE, encs, sevalprocAttr]
      by_cases hj2 : j < l.length
      · repeat' (first | (with_reducible refine BrW.yes (by omega) ?_) | (with_reducible refine IxW.nat hj2 ?_) | (with_reducible refine BrW.dec (fun hx => ?_) (fun hx => ?_)) | simp only [↓sx0, sxE, encs, sevalprocAttr] | ((with_reducible refine Vc.go ?_ fun _ => ?_); (focus (first | omega | (simp only [InK]; omega)))))
        all_goals first
          | exact EndI ⟨_, rfl, fun h => by omega⟩
          | exact EndI ⟨_, rfl, fun _ => ⟨hpr, fun h => by exfalso; omega⟩⟩
          | (refine ⟨j + 1, StLe.auto (by simp only [sx2, encs, sxR, sevalprocAttr] <;> (try simp) <;> (try omega)), ?_, ?_⟩
             · refine ⟨by omega, fun h3 i h h2 => ?_⟩
               by_cases hjk : i = j
               · subst hjk; intro h4; first | (exfalso; omega) | assumption | (intro h5; exact absurd h5 (by assumption))
               · exact hcl h3 i (by omega) h2
             · omega
             done)
      · repeat' (first | (with_reducible refine BrW.no (by omega) ?_) | simp only [↓sx0, sxE, encs, sevalprocAttr])
        all_goals first
          | exact EndI ⟨_, rfl, fun _ => ⟨hpr, fun h3 i h => hcl h3 i (by omega) h⟩⟩
end Go.Proofs.YtgcmppghjfidfaaGreatDoor
/-
 Chapter 1, walks: founts are checked (the reference).
-/
namespace Go.Proofs.YtgcmppghjfidfaaGreatDoor
open Go Go.Vx
set_option maxRecDepth 20000
def AnyII (rr : Ret) : Prop := ∃ i e : Int, rr = ⟨.tup [(.v (.int .i64 i)), (.v (.int .i64 e))], []⟩
structure StOk (l : List Srt) (k : Nat) (s : Srt) : Prop where
 name : namB s.name = true
 kind : 1 ≤ s.kind ∧ s.kind ≤ 3
 width : 1 ≤ s.width ∧ s.width ≤ 100000
 text : PrOk s.kind s.text
 fresh : ∀ j (_ : j < k) (h : j < l.length), l[j].name ≠ s.name
 clash : s.kind ≠ 3 → ∀ j (_ : j < k) (h : j < l.length), l[j].kind ≠ 3 → l[j].text ≠ s.text
structure FtOk (n : ByteArray) (bd : Int) (l : List Srt) : Prop where
 name : namB n = true
 body : 1 ≤ bd ∧ bd ≤ 144
 some : 1 ≤ l.length ∧ l.length ≤ 120
 sorts : ∀ k (h : k < l.length), StOk l k l[k]
def ZII (p : Prop) (rr : Ret) : Prop := ∃ i e : Int, rr = ⟨.tup [(.v (.int .i64 i)), (.v (.int .i64 e))], []⟩ ∧ (e = 0 → p)
theorem EndII {i n : Int} {rw : List Rw} {post : Ret → Prop} (h : post ⟨.tup [(.v (.int .i64 i)), (.v (.int .i64 n))], []⟩) : EndW (.tup [(.v (.int .i64 i)), (.v (.int .i64 n))]) rw post ⟨⟩ := EndW.p _ h (by simp [leV, leL]) (by simp [kpV, kpVL])
set_option maxHeartbeats 4000000 in
theorem checkFountR_s (n : ByteArray) (bd : Int) (b : Bool) (l : List Srt) (hn : n.size ≤ 1000000000) (hl : l.length ≤ 1000000) (hs : ∀ s ∈ l, SrtOk s) : Ctr Tryz.prog 58 [.agg [(.v (.string (n))), (.v (.int .i64 bd)), .sl b 4 (l.map eT)]] (ZII (FtOk n bd l)) := by
 have encs := And.intro encs eT_def
 refine Ctr.of (rs := [.tmp 2, .tmp 3]) Tok true Tryz.func58 rfl rfl rfl rfl (by simp [ofDL]) (fun w0 kp => ?_)
 simp only [↓sx0, sxE, encs, sevalprocAttr]
 refine CallI.fn (isNameR_s n hn) (by simp only [sx3, encs, sxR, sevalprocAttr] <;> (try simp) <;> (try rfl)) ?_
 simp only [↓sx0, sxE, encs, sevalprocAttr]
 refine BrW.of (fun hna => ?_) (fun hna => ?_)
 rotate_left
 ·repeat' (first | (with_reducible refine BrW.yes (by omega) ?_) | (with_reducible refine BrW.no (by omega) ?_) | (with_reducible refine BrW.dec (fun _ => ?_) (fun _ => ?_)) | (with_reducible refine BrW.of (fun _ => ?_) (fun _ => ?_)) | ((with_reducible refine Vc.go ?_ fun _ => ?_); (focus (first | omega | (simp only [InK]; omega) | (simp [InK] <;> omega)))) | simp only [↓sx0, sxE, encs, sevalprocAttr])
  all_goals exact EndII ⟨_, _, rfl, fun h => by omega⟩
 simp only [↓sx0, sxE, encs, sevalprocAttr]
 refine CallI.fn (withinB_s bd 1 144) (by simp only [sx3, encs, sxR, sevalprocAttr] <;> (try simp) <;> (try rfl)) ?_
 simp only [↓sx0, sxE, encs, sevalprocAttr]
 refine BrW.of (fun hbd => ?_) (fun hbd => ?_)
 rotate_left
 ·repeat' (first | (with_reducible refine BrW.yes (by omega) ?_) | (with_reducible refine BrW.no (by omega) ?_) | (with_reducible refine BrW.dec (fun _ => ?_) (fun _ => ?_)) | (with_reducible refine BrW.of (fun _ => ?_) (fun _ => ?_)) | ((with_reducible refine Vc.go ?_ fun _ => ?_); (focus (first | omega | (simp only [InK]; omega) | (simp [InK] <;> omega)))) | simp only [↓sx0, sxE, encs, sevalprocAttr])
  all_goals exact EndII ⟨_, _, rfl, fun h => by omega⟩
 simp only [decide_eq_true_eq] at hbd
 repeat' (first | (with_reducible refine BrW.yes (by omega) ?_) | (with_reducible refine BrW.no (by omega) ?_) | (with_reducible refine BrW.dec (fun _ => ?_) (fun _ => ?_)) | (with_reducible refine BrW.of (fun _ => ?_) (fun _ => ?_)) | ((with_reducible refine Vc.go ?_ fun _ => ?_); (focus (first | omega | (simp only [InK]; omega) | (simp [InK] <;> omega)))) | simp only [↓sx0, sxE, encs, sevalprocAttr])
 all_goals try exact EndII ⟨_, _, rfl, fun h => by omega⟩
 refine LoopW.comp [1, 4] (by simp only [sx2, encs, sxR, sevalprocAttr] <;> (try simp) <;> (try omega)) ?_
 simp only [sx2, sxR, sevalprocAttr]
 refine LoopW.up Tok (fun k : Nat => [(4, (.v (.int .i64 k)))]) (fun k => []) (fun k => []) (fun k => []) (fun k => k ≤ l.length ∧ ∀ j (_ : j < k) (h : j < l.length), StOk l j l[j]) (fun k => l.length - k) (0) (by simp only [sx2, encs, sxR, sevalprocAttr] <;> (try simp) <;> (try omega)) ?_ ?_
 ·exact ⟨by omega, fun j h => by omega⟩
 rintro k ⟨hk, hst⟩
 simp only [↓sx0, sxE, encs, sevalprocAttr]
 by_cases hk2 : k < l.length
 ·obtain ⟨z1, z2⟩ := hs _ (List.getElem_mem hk2)
  refine BrW.yes (by omega) ?_
  simp only [↓sx0, sxE, encs, sevalprocAttr]
  refine IxW.nat hk2 ?_
  simp only [↓sx0, sxE, encs, sevalprocAttr]
  refine CallI.fn (isNameR_s l[k].name z1) (by simp only [sx3, encs, sxR, sevalprocAttr] <;> (try simp) <;> (try rfl)) ?_
  simp only [↓sx0, sxE, encs, sevalprocAttr]
  refine BrW.of (fun hnm => ?_) (fun hnm => ?_)
  rotate_left
  ·repeat' (first | (with_reducible refine BrW.yes (by omega) ?_) | (with_reducible refine BrW.no (by omega) ?_) | (with_reducible refine BrW.dec (fun _ => ?_) (fun _ => ?_)) | (with_reducible refine BrW.of (fun _ => ?_) (fun _ => ?_)) | ((with_reducible refine Vc.go ?_ fun _ => ?_); (focus (first | omega | (simp only [InK]; omega) | (simp [InK] <;> omega)))) | simp only [↓sx0, sxE, encs, sevalprocAttr])
   all_goals exact EndII ⟨_, _, rfl, fun h => by omega⟩
  simp only [↓sx0, sxE, encs, sevalprocAttr]
  refine DrawW.plan Tok mixed (.q 0 <| .q 1 <| .q 2 <| .q 3 <| .q 4 <| .q 5 <| .e 6 [] <| .q 7 <| .done) (by kernel_rfl) (by kernel_rfl) ?_
  simp only [↓sx0, sxE, encs, sevalprocAttr]
  repeat ((with_reducible refine Vc.go ?_ fun _ => ?_); (focus (first | omega | (simp only [InK]; omega) | (simp [InK] <;> omega))); simp only [↓sx0, sxE, encs, sevalprocAttr])
  have tk : (l.take k).length ≤ 1000000 := by simp; omega
  rw [Int.toNat_natCast, ← List.map_take]
  refine CallI.ctr (named_s b (l.take k) l[k].name tk) (by simp only [sx3, encs, sxR, sevalprocAttr] <;> (try simp) <;> (try rfl)) ?_
  rintro _ ⟨e, rfl, hfr⟩
  simp only [↓sx0, sxE, encs, sevalprocAttr]
  refine BrW.dec (fun he => ?_) (fun he => ?_)
  ·repeat' (first | (with_reducible refine BrW.yes (by omega) ?_) | (with_reducible refine BrW.no (by omega) ?_) | (with_reducible refine BrW.dec (fun _ => ?_) (fun _ => ?_)) | (with_reducible refine BrW.of (fun _ => ?_) (fun _ => ?_)) | ((with_reducible refine Vc.go ?_ fun _ => ?_); (focus (first | omega | (simp only [InK]; omega) | (simp [InK] <;> omega)))) | simp only [↓sx0, sxE, encs, sevalprocAttr])
   all_goals try exact EndII ⟨_, _, rfl, fun h => by omega⟩
  simp only [↓sx0, sxE, encs, sevalprocAttr]
  have hfr2 : ∀ j (_ : j < k) (h : j < l.length), l[j].name ≠ l[k].name := fun j h h2 => by
   have := hfr (by omega) j (by simp; omega)
   rwa [List.getElem_take] at this
  refine CallI.fn (withinB_s l[k].kind 1 3) (by simp only [sx3, encs, sxR, sevalprocAttr] <;> (try simp) <;> (try rfl)) ?_
  simp only [↓sx0, sxE, encs, sevalprocAttr]
  refine BrW.of (fun hkd => ?_) (fun hkd => ?_)
  rotate_left
  ·repeat' (first | (with_reducible refine BrW.yes (by omega) ?_) | (with_reducible refine BrW.no (by omega) ?_) | (with_reducible refine BrW.dec (fun _ => ?_) (fun _ => ?_)) | (with_reducible refine BrW.of (fun _ => ?_) (fun _ => ?_)) | ((with_reducible refine Vc.go ?_ fun _ => ?_); (focus (first | omega | (simp only [InK]; omega) | (simp [InK] <;> omega)))) | simp only [↓sx0, sxE, encs, sevalprocAttr])
   all_goals exact EndII ⟨_, _, rfl, fun h => by omega⟩
  simp only [↓sx0, sxE, encs, sevalprocAttr]
  refine CallI.fn (withinB_s l[k].width 1 100000) (by simp only [sx3, encs, sxR, sevalprocAttr] <;> (try simp) <;> (try rfl)) ?_
  simp only [↓sx0, sxE, encs, sevalprocAttr]
  refine BrW.of (fun hwd => ?_) (fun hwd => ?_)
  rotate_left
  ·repeat' (first | (with_reducible refine BrW.yes (by omega) ?_) | (with_reducible refine BrW.no (by omega) ?_) | (with_reducible refine BrW.dec (fun _ => ?_) (fun _ => ?_)) | (with_reducible refine BrW.of (fun _ => ?_) (fun _ => ?_)) | ((with_reducible refine Vc.go ?_ fun _ => ?_); (focus (first | omega | (simp only [InK]; omega) | (simp [InK] <;> omega)))) | simp only [↓sx0, sxE, encs, sevalprocAttr])
   all_goals exact EndII ⟨_, _, rfl, fun h => by omega⟩
  simp only [↓sx0, sxE, encs, sevalprocAttr]
  simp only [decide_eq_true_eq] at hkd hwd
  refine DrawW.plan Tok mixed (.q 0 <| .q 1 <| .q 2 <| .q 3 <| .q 4 <| .q 5 <| .q 6 <| .q 7 <| .e 8 [] <| .q 9 <| .done) (by kernel_rfl) (by kernel_rfl) ?_
  simp only [↓sx0, sxE, encs, sevalprocAttr]
  repeat ((with_reducible refine Vc.go ?_ fun _ => ?_); (focus (first | omega | (simp only [InK]; omega) | (simp [InK] <;> omega))); simp only [↓sx0, sxE, encs, sevalprocAttr])
  rw [Int.toNat_natCast, ← List.map_take]
  refine CallI.ctr (printsErr_s b (l.take k) l[k].kind l[k].text tk z2) (by simp only [sx3, encs, sxR, sevalprocAttr] <;> (try simp) <;> (try rfl)) ?_
  rintro _ ⟨e, rfl, hpr⟩
  simp only [↓sx0, sxE, encs, sevalprocAttr]
  refine BrW.dec (fun he0 => ?_) (fun he0 => ?_)
  ·repeat' (first | (with_reducible refine BrW.yes (by omega) ?_) | (with_reducible refine BrW.no (by omega) ?_) | (with_reducible refine BrW.dec (fun _ => ?_) (fun _ => ?_)) | (with_reducible refine BrW.of (fun _ => ?_) (fun _ => ?_)) | ((with_reducible refine Vc.go ?_ fun _ => ?_); (focus (first | omega | (simp only [InK]; omega) | (simp [InK] <;> omega)))) | simp only [↓sx0, sxE, encs, sevalprocAttr])
   all_goals exact EndII ⟨_, _, rfl, fun h => by omega⟩
  repeat' (first | (with_reducible refine BrW.yes (by omega) ?_) | (with_reducible refine BrW.no (by omega) ?_) | (with_reducible refine BrW.dec (fun _ => ?_) (fun _ => ?_)) | (with_reducible refine BrW.of (fun _ => ?_) (fun _ => ?_)) | ((with_reducible refine Vc.go ?_ fun _ => ?_); (focus (first | omega | (simp only [InK]; omega) | (simp [InK] <;> omega)))) | simp only [↓sx0, sxE, encs, sevalprocAttr])
  refine ⟨k + 1, StLe.auto (by simp only [sx2, encs, sxR, sevalprocAttr] <;> (try simp) <;> (try omega)), ?_, ?_⟩
  ·refine ⟨by omega, fun j h h2 => ?_⟩
   by_cases hjk : j = k
   ·subst hjk
    obtain ⟨p1, p2⟩ := hpr (by omega)
    refine ⟨hnm, hkd, hwd, p1, hfr2, fun h3 i h4 h5 h6 => ?_⟩
    have := p2 h3 i (by simp; omega)
    rw [List.getElem_take] at this
    exact this h6
   ·exact hst j (by omega) h2
  ·omega
 ·refine BrW.no (by omega) ?_
  simp only [↓sx0, sxE, encs, sevalprocAttr]
  exact EndII ⟨_, _, rfl, fun _ => ⟨hna, hbd, by omega, fun j h => hst j (by omega) h⟩⟩
end Go.Proofs.YtgcmppghjfidfaaGreatDoor
/-
 Chapter 2, walks: marked words are read (the reference).
-/
namespace Go.Proofs.YtgcmppghjfidfaaGreatDoor
open Go Go.Vx
set_option maxRecDepth 20000
def smB (c : UInt8) : Bool := decide (97 ≤ c.toNat ∧ c.toNat ≤ 122)
theorem isSmallR_s (c : UInt8) : Ctr Tryz.prog 131 [.v (.int .u8 (c.toNat : Int))] (fun rr => rr = ⟨(.v (.bool (smB c))), []⟩) := by
 refine Ctr.of (rs := [.tmp 2]) Tok true Tryz.func131 rfl rfl rfl rfl (by simp [ofDL]) (fun w0 kp => ?_)
 simp only [↓sx0, xE, sevalprocAttr]
 refine BrW.dec (fun h => ?_) (fun h => ?_)
 ·simp only [↓sx0, xE, sevalprocAttr]
  have : smB c = decide ((c.toNat : Int) ≤ 122) := by unfold smB; rw [decide_eq_decide]; omega
  refine EndW.fn ?_ ?_ <;> simp only [sx4, xK, sevalprocAttr] <;> (try simp [this]) <;> (try omega)
 ·simp only [↓sx0, xE, sevalprocAttr]
  have : smB c = false := by unfold smB; rw [decide_eq_false_iff_not]; omega
  refine EndW.fn ?_ ?_ <;> simp only [sx4, xK, sevalprocAttr] <;> (try simp [this]) <;> (try omega)
theorem StrIx.gen {s : ByteArray} {j : Int} {k : SV → Prop} (h : 0 ≤ j ∧ j < (s.size : Int)) (hk : ∀ b : UInt8, s.data.toList[j.toNat]? = some b → k (.v (.int .u8 (b.toNat : Int)))) : StrIx s j k ⟨⟩ :=
 ⟨h.1, s[j.toNat]'(by omega), by rw [getElem?_pos]; , hk _ (by rw [List.getElem?_eq_getElem (by simp; omega)]; rfl)⟩
theorem StrIx.is {s : ByteArray} {n : Nat} {b : UInt8} {k : SV → Prop} (hb : s.data.toList[n]? = some b) (hk : k (.v (.int .u8 (b.toNat : Int)))) : StrIx s (n : Int) k ⟨⟩ := by
 have hn : n < s.size := by
  have := (List.getElem?_eq_some_iff.1 hb).1
  simpa using this
 refine StrIx.gen (by omega) fun b' hb' => ?_
 rw [Int.toNat_natCast, hb] at hb'
 cases hb'
 exact hk
def NA (c : UInt8) : List UInt8 → Bool → Bool
 | [], p => p
 | b :: l, p => if b = c then p && NA c l false else NA c l true
def mkL (c : UInt8) (l : List UInt8) : List UInt8 := l.filter fun b => decide (b ≠ c)
theorem mkL_snoc {c : UInt8} {l : List UInt8} {k : Nat} {b : UInt8} (h : l[k]? = some b) : mkL c (l.take (k + 1)) = if b = c then mkL c (l.take k) else mkL c (l.take k) ++ [b] := by
 unfold mkL
 rw [List.take_add_one, h, List.filter_append]
 by_cases hb : b = c <;> simp [hb]
theorem drop_at {l : List UInt8} {k : Nat} {b : UInt8} (h : l[k]? = some b) : l.drop k = b :: l.drop (k + 1) := by
 obtain ⟨hk, he⟩ := List.getElem?_eq_some_iff.1 h
 rw [List.drop_eq_getElem_cons hk, he]
theorem ext1 {s : ByteArray} {k : Nat} {b : UInt8} (h : s.data.toList[k]? = some b) : (s.extract k (k + 1)).data.toList = [b] := by
 rw [ByteArray.data_extract, Array.toList_extract, List.extract_eq_take_drop, drop_at h]
 simp
structure MkI (c : UInt8) (lt : Bool) (l : List UInt8) (k : Nat) (w : ByteArray) (ps : List Int) (q : Bool) : Prop where
 hk : k ≤ l.length
 hw : w.data.toList = mkL c (l.take k)
 sz : w.size ≤ k
 hps : ps.length ≤ k
 pn : ps ≠ [] → c ∈ l.take k
 na : NA c (l.drop k) q = NA c l false
 q1 : q = false → k = 0 ∨ l[k - 1]? = some c
 q2 : k = l.length → 0 < k → q = true
 hb : ∀ b ∈ mkL c (l.take k), okB b = true ∧ (lt = true → smB b = true)
structure MkOk (c : UInt8) (lt : Bool) (s w : ByteArray) (ps : List Int) : Prop where
 na : NA c s.data.toList false = true
 hw : w.data.toList = mkL c s.data.toList
 sz : 1 ≤ w.size ∧ w.size ≤ 30
 pn : ps ≠ [] → c ∈ s.data.toList
 hb : ∀ b ∈ mkL c s.data.toList, okB b = true ∧ (lt = true → smB b = true)
theorem MkI.mark {c : UInt8} {lt : Bool} {l : List UInt8} {k : Nat} {w : ByteArray} {ps : List Int} {q : Bool} (h : MkI c lt l k w ps q) {b p : UInt8} (hb : l[k]? = some b) (hc : b = c) (hk : k ≠ 0) (he : k + 1 ≠ l.length) (hp : l[k - 1]? = some p) (hpc : p ≠ c) (n : Int) : MkI c lt l (k + 1) w (ps ++ [n]) false := by
 have hkl := (List.getElem?_eq_some_iff.1 hb).1
 have hs := mkL_snoc (c := c) hb
 rw [if_pos hc] at hs
 have hq : q = true := by
  cases q with
  | true => rfl
  | false =>
   rcases h.q1 rfl with h1 | h1
   ·exact absurd h1 hk
   ·rw [hp] at h1; exact absurd (Option.some.inj h1) hpc
 refine ⟨hkl, by rw [hs]; exact h.hw, by have := h.sz; omega, by have := h.hps; simp; omega, fun _ => ?_, ?_, fun _ => .inr ?_, fun e => absurd e he, by rw [hs]; exact h.hb⟩
 ·rw [List.take_add_one, hb, hc]; simp
 ·rw [← h.na, drop_at hb, NA, if_pos hc, hq, Bool.true_and]
 ·rw [Nat.add_sub_cancel, hb, hc]
theorem MkI.byte {c : UInt8} {lt : Bool} {l : List UInt8} {k : Nat} {w x : ByteArray} {ps : List Int} {q : Bool} (h : MkI c lt l k w ps q) {b : UInt8} (hb : l[k]? = some b) (hc : b ≠ c) (ho : okB b = true) (hl : lt = true → smB b = true) (hx : x.data.toList = [b]) : MkI c lt l (k + 1) (w ++ x) ps true := by
 have hkl := (List.getElem?_eq_some_iff.1 hb).1
 have hs := mkL_snoc (c := c) hb
 rw [if_neg hc] at hs
 have hxs : x.size = 1 := by
  have : x.data.toList.length = 1 := by rw [hx]; rfl
  simpa using this
 refine ⟨hkl, by rw [hs, ByteArray.toList_data_append, h.hw, hx], by have := h.sz; rw [ByteArray.size_append]; omega, by have := h.hps; omega, fun e => ?_, ?_, fun e => (by cases e), fun _ _ => rfl, ?_⟩
 ·rw [List.take_add_one]
  exact List.mem_append_left _ (h.pn e)
 ·rw [← h.na, drop_at hb, NA, if_neg hc]
 ·rw [hs]
  intro y hy
  rcases List.mem_append.1 hy with hy | hy
  ·exact h.hb y hy
  ·rw [List.mem_singleton.1 hy]; exact ⟨ho, hl⟩
theorem MkI.ok {c : UInt8} {lt : Bool} {s : ByteArray} {w : ByteArray} {ps : List Int} {q : Bool} (h : MkI c lt s.data.toList s.data.toList.length w ps q) (hw : 1 ≤ w.size ∧ w.size ≤ 30) : MkOk c lt s w ps := by
 have h1 := h.hw; have h2 := h.pn; have h3 := h.na; have h4 := h.hb
 rw [List.take_length] at h1 h2 h4
 rw [List.drop_length, NA] at h3
 refine ⟨?_, h1, hw, h2, h4⟩
 rw [← h3]
 refine h.q2 rfl ?_
 have : w.data.toList.length = w.size := by simp
 rw [h1] at this
 have h5 : (mkL c s.data.toList).length ≤ s.data.toList.length := List.length_filter_le _ _
 omega
def RdMk (c : UInt8) (lt : Bool) (s : ByteArray) (rr : Ret) : Prop := ∃ (w : ByteArray) (ps : List Int) (ok : Bool), rr = ⟨.tup [(.v (.string (w))), .sl true 1 (ps.map eI), (.v (.bool (ok)))], []⟩ ∧ w.size ≤ s.size ∧ (ok = true → MkOk c lt s w ps)
theorem EndMk {c : UInt8} {lt : Bool} {s : ByteArray} {rw : List Rw} : EndW (.tup [(.v (.string (⟨#[]⟩))), .v (.slice none 0 0), (.v (.bool (false)))]) rw (RdMk c lt s) ⟨⟩ :=
 EndW.p (.tup [(.v (.string (⟨#[]⟩))), .sl true 1 [], (.v (.bool (false)))]) ⟨⟨#[]⟩, [], false, rfl, Nat.zero_le _, fun h => by cases h⟩ (by simp [leV, leL]) (by simp [kpV, kpVL, kpLL])
theorem size_list (s : ByteArray) : s.data.toList.length = s.size := by simp
theorem u8_ext {a b : UInt8} (h : (a.toNat : Int) = (b.toNat : Int)) : a = b := UInt8.toNat_inj.1 (by omega)
set_option maxHeartbeats 4000000 in
theorem readMarked_s (s : ByteArray) (c : UInt8) (lt : Bool) (hs : s.size ≤ 1000000) : Ctr Tryz.prog 132 [(.v (.string (s))), .v (.int .u8 (c.toNat : Int)), (.v (.bool (lt)))] (RdMk c lt s) := by
 have hsl := size_list s
 refine Ctr.of (rs := [.tmp 6, .tmp 7, .tmp 8]) Tok true Tryz.func132 rfl rfl rfl rfl (by simp [ofDL]) (fun w0 kp => ?_)
 simp only [↓sx0, xE, sevalprocAttr]
 refine LoopW.comp [0, 1, 2, 9, 10, 11] (by simp only [sx2, xR, sevalprocAttr] <;> (try simp) <;> (try omega)) ?_
 simp only [sx2, sxR, sevalprocAttr]
 refine LoopW.up Tok (fun x : Nat × ByteArray × List Int × Bool => [(9, (.v (.string (x.2.1)))), (10, .row 0), (11, (.v (.int .i64 x.1)))]) (fun x => []) (fun x => []) (fun x => [.own 3 1 (x.2.2.1.map eI)]) (fun x => MkI c lt s.data.toList x.1 x.2.1 x.2.2.1 x.2.2.2) (fun x => s.size - x.1) ((0, ⟨#[]⟩, [], false)) (by simp only [sx2, xR, sevalprocAttr] <;> (try simp) <;> (try omega)) ?_ ?_
 ·exact ⟨Nat.zero_le _, rfl, Nat.le_refl _, Nat.le_refl _, fun h => absurd rfl h, rfl, fun _ => .inl rfl, fun _ h => by omega, by simp [mkL]⟩
 rintro ⟨k, w, ps, q⟩ hI
 simp only at hI
 have hk := hI.hk
 have hsz := hI.sz
 have hps := hI.hps
 simp only [↓sx0, xE, sevalprocAttr]
 by_cases hk2 : k < s.size
 ·refine BrW.yes (by omega) ?_
  simp only [↓sx0, xE, sevalprocAttr]
  refine StrIx.gen (by omega) (fun b hb => ?_)
  simp only [Int.toNat_natCast] at hb
  simp only [↓sx0, xE, sevalprocAttr]
  refine BrW.dec (fun hm => ?_) (fun hm => ?_)
  ·simp only [↓sx0, xE, sevalprocAttr]
   refine BrW.dec (fun h0 => ?_) (fun h0 => ?_)
   ·simp only [↓sx0, xE, sevalprocAttr]
    exact EndMk
   simp only [↓sx0, xE, sevalprocAttr]
   (with_reducible refine Vc.go ?_ fun _ => ?_); focus (first | omega | (simp only [InK]; omega) | (simp [InK] <;> omega))
   simp only [↓sx0, xE, sevalprocAttr]
   refine BrW.dec (fun hl => ?_) (fun hl => ?_)
   ·simp only [↓sx0, xE, sevalprocAttr]
    exact EndMk
   simp only [↓sx0, xE, sevalprocAttr]
   (with_reducible refine Vc.go ?_ fun _ => ?_); focus (first | omega | (simp only [InK]; omega) | (simp [InK] <;> omega))
   simp only [↓sx0, xE, sevalprocAttr]
   refine StrIx.gen (by omega) (fun p hp => ?_)
   rw [show ((k : Int) - 1).toNat = k - 1 by omega] at hp
   simp only [↓sx0, xE, sevalprocAttr]
   refine BrW.dec (fun hpc => ?_) (fun hpc => ?_)
   ·simp only [↓sx0, xE, sevalprocAttr]
    exact EndMk
   simp only [↓sx0, xE, sevalprocAttr]
   repeat ((with_reducible refine Vc.go ?_ fun _ => ?_); (focus (first | omega | (simp only [InK]; omega) | (simp [InK] <;> omega))); simp only [↓sx0, xE, sevalprocAttr])
   have hmap : (ps ++ [(w.size : Int)]).map eI = ps.map eI ++ [[.v (.int .i64 (w.size : Int))]] := by simp [eI]
   refine ⟨(k + 1, w, ps ++ [(w.size : Int)], false), StLe.auto (by simp only [sx2, xR, sevalprocAttr] <;> (try simp [hmap, encs]) <;> (try omega)), ?_, ?_⟩
   ·exact hI.mark hb (u8_ext hm) (by omega) (by omega) hp (fun e => hpc (by rw [e])) _
   ·simp only; omega
  ·simp only [↓sx0, xE, sevalprocAttr]
   repeat' (first | (with_reducible refine StrIx.is hb ?_) | (refine CallI.fn (isSmallR_s b) ?_ ?_; (focus ((simp only [sx3, xR, sevalprocAttr] <;> (try simp) <;> (try rfl)); done))) | (refine CallI.fn (isByteR_s b) ?_ ?_; (focus ((simp only [sx3, xR, sevalprocAttr] <;> (try simp) <;> (try rfl)); done))) | (with_reducible refine BrW.of (fun h1 => ?_) (fun h1 => ?_)) | simp only [↓sx0, xE, sevalprocAttr] | ((with_reducible refine Vc.go ?_ fun _ => ?_); (focus (first | omega | (simp only [InK]; omega) | (simp [InK]; omega)))))
   all_goals try exact EndMk
   all_goals
    have hex : s.extract ((k : Int)).toNat ((k : Int) + 1).toNat = s.extract k (k + 1) := by
     rw [show ((k : Int) + 1).toNat = k + 1 by omega, Int.toNat_natCast]
    rw [hex]
    have hcb : b ≠ c := fun e => hm (by rw [e])
    refine ⟨(k + 1, w ++ s.extract k (k + 1), ps, true), StLe.auto (by simp only [sx2, xR, sevalprocAttr] <;> (try simp) <;> (try omega)), ?_, ?_⟩
    ·refine hI.byte hb hcb (by simp_all) (by simp_all) (ext1 hb)
    ·simp only; omega
 ·refine BrW.no (by omega) ?_
  simp only [↓sx0, xE, sevalprocAttr]
  refine CallI.fn (withinB_s (w.size : Int) 1 30) (by simp only [sx3, xR, sevalprocAttr] <;> (try simp) <;> (try rfl)) ?_
  simp only [↓sx0, xE, sevalprocAttr]
  refine EndW.p (.tup [(.v (.string (w))), .sl true 1 (ps.map eI), (.v (.bool (decide ((1 : Int) ≤ (w.size : Int) ∧ (w.size : Int) ≤ 30))))]) ⟨w, ps, _, rfl, by omega, fun h => ?_⟩ ?_ ?_
  ·have hke : k = s.data.toList.length := by omega
   subst hke
   simp only [decide_eq_true_eq] at h
   exact hI.ok (by omega)
  all_goals (simp only [sx4, xK, sevalprocAttr] <;> (try simp))
end Go.Proofs.YtgcmppghjfidfaaGreatDoor
/-
 Whether a text is a word: the library's search for a rune, by its own contract.
-/
namespace Go.Proofs.YtgcmppghjfidfaaGreatDoor
open Go Go.Vx Go.Shelf Go.RowKit
def rIdx : Ren := ⟨fun | 315 => 169 | n => n, fun | 9 => 9 | 40 => 199 | 4 => 4 | 3 => 3 | 0 => 0 | 21 => 21 | n => n, fun n => n⟩
theorem laysIdx : Lays.n315 Tryz.prog rIdx := { mixed := rfl, f315 := Tryz.func169, t0 := Tryz.underlying0, a0 := Tryz.isAgg0, z0 := Tryz.sizeOf0, v0 := Tryz.zeroValue0, t3 := Tryz.underlying3, a3 := Tryz.isAgg3, z3 := Tryz.sizeOf3, v3 := Tryz.zeroValue3, t4 := Tryz.underlying4, a4 := Tryz.isAgg4, z4 := Tryz.sizeOf4, v4 := Tryz.zeroValue4, t9 := Tryz.underlying9, a9 := Tryz.isAgg9, z9 := Tryz.sizeOf9, v9 := Tryz.zeroValue9, t21 := Tryz.underlying21, a21 := Tryz.isAgg21, z21 := Tryz.sizeOf21, v21 := Tryz.zeroValue21, t40 := Tryz.underlying199, a40 := Tryz.isAgg199, z40 := Tryz.sizeOf199, v40 := Tryz.zeroValue199 }
def badR (r : Nat) : Bool := decide (r < 33) || decide (126 < r)
theorem isWord1_s (r : Nat) : Ctr Tryz.prog 135 [.v (.int .i32 (r : Int))] (fun rr => rr = ⟨(.v (.bool (badR r))), []⟩) := by
 refine Ctr.of (rs := [.tmp 2]) Tok true Tryz.func135 rfl rfl rfl rfl (by simp [ofDL]) (fun w0 kp => ?_)
 simp only [↓sx0, xE, sevalprocAttr]
 refine BrW.dec (fun h => ?_) (fun h => ?_)
 ·simp only [↓sx0, xE, sevalprocAttr]
  have : badR r = true := by simp [badR]; omega
  refine EndW.fn ?_ ?_ <;> simp only [sx4, xK, sevalprocAttr] <;> (try simp [this]) <;> (try omega)
 ·simp only [↓sx0, xE, sevalprocAttr]
  have : badR r = decide (126 < (r : Int)) := by rw [Bool.eq_iff_iff]; simp [badR]; omega
  refine EndW.fn ?_ ?_ <;> simp only [sx4, xK, sevalprocAttr] <;> (try simp [this]) <;> (try omega)
/-- a contract with values, as a fact on calls. -/
theorem ctr_call {P : Program} {f : FuncId} {xs : List Value} {u : Value} (h : Ctr P f (xs.map .v) (fun rr => rr = ⟨.v u, []⟩)) (w : World) : Calls P f xs.toArray w fun e w' => e = .returned u ∧ Below w.heap.size w w' := by
 refine (h.2 w (fun _ => none) (fun b o hb => by cases hb) xs (rels_same xs)).mono ?_
 rintro e w' ⟨v, r, rfl, rfl, hb, g, _, _, hv, _⟩
 simp only [rel] at hv
 exact ⟨by rw [hv], hb⟩
theorem grows (w : World) : PredGrows Tryz.prog 135 #[] badR w := fun W x _ _ => by
 have := ctr_call (xs := [.int .i32 (x : Int)]) (isWord1_s x) W
 simpa using this
theorem callee (args : Array Value) (w : World) : (callFunc 135 args).run Tryz.prog w = .ok (.enter 135 args) w := Go.Proofs.enters_of Tryz.func135 (by kernel_rfl) rfl args w
theorem indexFunc_s (s : ByteArray) : Ctr Tryz.prog 169 [(.v (.string (s))), .clo 135 [], (.v (.bool (true)))] (fun rr => rr = ⟨(.v (.int .i64 (Lib.idxFunc badR true s))), []⟩) := by
 refine ⟨⟨_, Tryz.func169, rfl, rfl⟩, fun w kp hk vs hr => ?_⟩
 match vs, hr with
 | [a, b, c], ⟨h1, ⟨cs, h2, h3⟩, h4, _⟩ =>
  simp only [rel] at h1 h4
  have hcs : cs = #[] := by
   cases hl : cs.toList with
   | nil => simpa using hl
   | cons x l => rw [hl] at h3; exact h3.elim
  subst hcs
  rw [h1, h2, h4]
  have := Any.strings_indexFunc_grows laysIdx 135 #[] callee badR true s w (grows w)
  refine Calls.mono this ?_
  rintro e w' ⟨rfl, hb⟩
  exact ⟨_, _, rfl, rfl, RetOk.plain hk hb fun g => rfl⟩
theorem decode_big (s : ByteArray) (pos : Nat) (h : pos < s.size) (ha : 128 ≤ s[pos].toNat) : 128 ≤ (Utf8.decode s pos).1 := by
 have h0 : (s.get! (pos + 0)).toNat = s[pos].toNat := by simp [ByteArray.get!, h, getElem!_pos, ByteArray.getElem_eq_getElem_data]
 unfold Utf8.decode
 simp only [h0, Utf8.runeError]
 repeat' split
 all_goals first | omega | (rename_i hh; simp only [Bool.and_eq_true, decide_eq_true_eq] at hh; omega) | (simp_all; done) | (simp_all; omega)
theorem idx_from {s : ByteArray} : ∀ (f pos : Nat), s.size ≤ pos + f → (Lib.idxFuncFrom badR true s f pos < 0 ↔ (s.data.toList.drop pos).all okB = true)
 | 0, pos, h => by
  have : s.data.toList.drop pos = [] := List.drop_eq_nil_iff.2 (by simp; omega)
  simp [Lib.idxFuncFrom, this]
 | f + 1, pos, h => by
  unfold Lib.idxFuncFrom
  split
  ·rename_i hlt
   have hl : pos < s.data.toList.length := by simpa using hlt
   rw [List.drop_eq_getElem_cons hl, List.all_cons]
   have hce : s[pos] = s.data.toList[pos] := rfl
   rw [← hce]
   by_cases ha : s[pos].toNat < 128
   ·rw [decode_ascii s pos hlt ha]
    by_cases hb : badR s[pos].toNat = true
    ·rw [if_pos hb]
     have : okB s[pos] = false := by simp only [badR, Bool.or_eq_true, decide_eq_true_eq] at hb; simp [okB]; omega
     rw [this]; simp
    ·rw [if_neg hb, idx_from f (pos + 1) (by omega)]
     have : okB s[pos] = true := by simp only [badR, Bool.or_eq_true, decide_eq_true_eq] at hb; simp [okB]; omega
     rw [this, Bool.true_and]
   ·have h1 := decode_big s pos hlt (by omega)
    rw [if_pos (by simp [badR]; omega)]
    have : okB s[pos] = false := by simp [okB]; omega
    rw [this]; simp
  ·have : s.data.toList.drop pos = [] := List.drop_eq_nil_iff.2 (by simp; omega)
   simp [this]
theorem idx_ok (s : ByteArray) : decide (Lib.idxFunc badR true s < 0) = bytesOk s := by
 have := idx_from (s := s) s.size 0 (by omega)
 rw [Bool.eq_iff_iff, decide_eq_true_eq]
 simpa [Lib.idxFunc, bytesOk] using this
theorem isWordT_s (s : ByteArray) : Ctr Tryz.prog 91 [(.v (.string (s)))] (fun rr => rr = ⟨(.v (.bool (isWd s))), []⟩) := by
 have hI : Ctr Tryz.prog 134 [(.v (.string (s))), .clo 135 []] (fun rr => rr = ⟨(.v (.int .i64 (Lib.idxFunc badR true s))), []⟩) := by
  refine Ctr.of (rs := [.tmp 4]) Tok true Tryz.func134 rfl rfl rfl rfl (by simp [ofDL]) (fun w0 kp => ?_)
  simp only [↓sx0, xE, sevalprocAttr]
  refine CallI.fn (indexFunc_s s) (by simp only [sx3, xR, sevalprocAttr] <;> (try simp) <;> (try rfl)) ?_
  simp only [↓sx0, xE, sevalprocAttr]
  refine EndW.fn ?_ ?_ <;> simp only [sx4, xK, sevalprocAttr] <;> (try simp) <;> (try omega)
 refine Ctr.of (rs := [.tmp 2]) Tok true Tryz.func91 rfl rfl rfl rfl (by simp [ofDL]) (fun w0 kp => ?_)
 simp only [↓sx0, xE, sevalprocAttr]
 refine CallI.fn (withinT_s (s.size : Int) 1 30) (by simp only [sx3, xR, sevalprocAttr] <;> (try simp) <;> (try rfl)) ?_
 simp only [↓sx0, xE, sevalprocAttr]
 refine BrW.of (fun hw => ?_) (fun hw => ?_)
 ·have hw : (1 : Int) ≤ s.size ∧ (s.size : Int) ≤ 30 := by simpa using hw
  simp only [↓sx0, xE, sevalprocAttr]
  refine CallI.fn (hI) (by simp only [sx3, xR, sevalprocAttr] <;> (try simp) <;> (try rfl)) ?_
  simp only [↓sx0, xE, sevalprocAttr]
  rw [idx_ok]
  have : isWd s = bytesOk s := by rw [isWd, decide_eq_true (show 1 ≤ s.size ∧ s.size ≤ 30 by omega), Bool.and_true]
  refine EndW.fn ?_ ?_ <;> simp only [sx4, xK, sevalprocAttr] <;> (try simp [this]) <;> (try omega)
 ·have hw : ¬ ((1 : Int) ≤ s.size ∧ (s.size : Int) ≤ 30) := by simpa using hw
  simp only [↓sx0, xE, sevalprocAttr]
  have : isWd s = false := by rw [isWd, decide_eq_false (show ¬ (1 ≤ s.size ∧ s.size ≤ 30) by omega), Bool.and_false]
  refine EndW.fn ?_ ?_ <;> simp only [sx4, xK, sevalprocAttr] <;> (try simp [this]) <;> (try omega)
end Go.Proofs.YtgcmppghjfidfaaGreatDoor
/-
 Chapter 8, walks: parts of a copy are right.
-/
namespace Go.Proofs.YtgcmppghjfidfaaGreatDoor
open Go Go.Vx
set_option maxRecDepth 20000
def ixG {α : Type} (p : α → Bool) (l : List α) : Int := match l.findIdx? p with
 | some k => (k : Int)
 | none => -1
theorem ixG_at {α : Type} {p : α → Bool} {l : List α} {k : Nat} (hk : k < l.length) (he : p l[k] = true) (ht : ∀ j (_ : j < k) (h2 : j < l.length), p l[j] = false) : ixG p l = k := by
 have : l.findIdx? p = some k := by
  rw [List.findIdx?_eq_some_iff_getElem]
  exact ⟨hk, he, fun j hj => by simpa using ht j hj (by omega)⟩
 simp [ixG, this]
theorem ixG_no {α : Type} {p : α → Bool} {l : List α} (ht : ∀ j (h2 : j < l.length), p l[j] = false) : ixG p l = -1 := by
 have : l.findIdx? p = none := by
  rw [List.findIdx?_eq_none_iff]
  intro y hy
  obtain ⟨j, h1, rfl⟩ := List.getElem_of_mem hy
  exact ht j h1
 simp [ixG, this]
theorem ixG_any {α : Type} {p : α → Bool} {l : List α} : decide (0 ≤ ixG p l) = l.any p := by
 rw [Bool.eq_iff_iff, decide_eq_true_eq, List.any_eq_true]
 unfold ixG
 cases h : l.findIdx? p with
 | none =>
  rw [List.findIdx?_eq_none_iff] at h
  simp only
  refine ⟨fun h => by omega, fun ⟨x, h1, h2⟩ => ?_⟩
  rw [h x h1] at h2; cases h2
 | some k =>
  rw [List.findIdx?_eq_some_iff_getElem] at h
  obtain ⟨h1, h2, _⟩ := h
  exact ⟨fun _ => ⟨_, List.getElem_mem h1, h2⟩, fun _ => by simp only; omega⟩
theorem indexS_s (b : Bool) (f : Nat) (p : ByteArray → Bool) (l : List ByteArray) (hl : l.length ≤ 1000000000) (hof : ∀ x ∈ l, Ctr Tryz.prog f [(.v (.string (x)))] (fun rr => rr = ⟨(.v (.bool (p x))), []⟩)) : Ctr Tryz.prog 167 [.sl b 1 (l.map eS), .clo f []] (fun rr => rr = ⟨(.v (.int .i64 (ixG p l))), []⟩) := by
 refine Ctr.of (rs := [.tmp 4]) Tok true Tryz.func167 rfl rfl rfl rfl (by simp [ofDL]) (fun w0 kp => ?_)
 simp only [↓sx0, xE, sevalprocAttr]
 refine LoopW.comp [0, 1, 7, 8] (by simp only [sx2, xR, sevalprocAttr] <;> (try simp) <;> (try omega)) ?_
 simp only [sx2, sxR, sevalprocAttr]
 refine LoopW.up Tok (fun k : Nat => [(8, (.v (.int .i64 k)))]) (fun k => []) (fun k => []) (fun k => []) (fun k => k ≤ l.length ∧ ∀ j (_ : j < k) (h2 : j < l.length), p l[j] = false) (fun k => l.length - k) (0) (by simp only [sx2, xR, sevalprocAttr] <;> (try simp) <;> (try omega)) ?_ ?_
 ·exact ⟨by omega, fun j h => absurd h (Nat.not_lt_zero _)⟩
 rintro k ⟨hk, ht⟩
 simp only [↓sx0, xE, sevalprocAttr]
 refine BrW.dec (fun hlt => ?_) (fun hlt => ?_)
 ·simp only [↓sx0, xE, sevalprocAttr]
  have hlt : k < l.length := by omega
  refine IxW.nat hlt ?_
  simp only [↓sx0, xE, sevalprocAttr]
  refine CallI.fn (hof l[k] (List.getElem_mem hlt)) (by simp only [sx3, xR, sevalprocAttr] <;> (try simp) <;> (try rfl)) ?_
  simp only [↓sx0, xE, sevalprocAttr]
  refine BrW.of (fun hb => ?_) (fun hb => ?_)
  ·simp only [↓sx0, xE, sevalprocAttr]
   have := ixG_at hlt hb ht
   refine EndW.fn ?_ ?_ <;> simp only [sx4, xK, sevalprocAttr] <;> (try simp [this]) <;> (try omega)
  ·simp only [↓sx0, xE, sevalprocAttr]
   (with_reducible refine Vc.go ?_ fun _ => ?_); focus (first | omega | (simp only [InK]; omega) | (simp [InK] <;> omega))
   simp only [↓sx0, xE, sevalprocAttr]
   refine ⟨k + 1, StLe.auto (by simp only [sx2, xR, sevalprocAttr] <;> (try simp) <;> (try omega)), ?_, ?_⟩
   ·refine ⟨hlt, fun j h h2 => ?_⟩
    by_cases e : j = k
    ·subst e; exact hb
    ·exact ht j (by omega) h2
   ·omega
 ·simp only [↓sx0, xE, sevalprocAttr]
  have hke : k = l.length := by omega
  subst hke
  have := ixG_no (l := l) (p := p) fun j h => ht j h h
  refine EndW.fn ?_ ?_ <;> simp only [sx4, xK, sevalprocAttr] <;> (try simp [this]) <;> (try omega)
theorem containsS_s (b : Bool) (f : Nat) (p : ByteArray → Bool) (l : List ByteArray) (hl : l.length ≤ 1000000000) (hof : ∀ x ∈ l, Ctr Tryz.prog f [(.v (.string (x)))] (fun rr => rr = ⟨(.v (.bool (p x))), []⟩)) : Ctr Tryz.prog 127 [.sl b 1 (l.map eS), .clo f []] (fun rr => rr = ⟨(.v (.bool (l.any p))), []⟩) := by
 refine Ctr.of (rs := [.tmp 4]) Tok true Tryz.func127 rfl rfl rfl rfl (by simp [ofDL]) (fun w0 kp => ?_)
 simp only [↓sx0, xE, sevalprocAttr]
 refine CallI.fn (indexS_s b f p l hl hof) (by simp only [sx3, xR, sevalprocAttr] <;> (try simp) <;> (try rfl)) ?_
 simp only [↓sx0, xE, sevalprocAttr]
 rw [ixG_any]
 refine EndW.fn ?_ ?_ <;> simp only [sx4, xK, sevalprocAttr] <;> (try simp) <;> (try omega)
def badW (s : ByteArray) : Bool := !isWd s
theorem part1_s (s : ByteArray) : Ctr Tryz.prog 128 [(.v (.string (s)))] (fun rr => rr = ⟨(.v (.bool (badW s))), []⟩) := by
 refine Ctr.of (rs := [.tmp 2]) Tok true Tryz.func128 rfl rfl rfl rfl (by simp [ofDL]) (fun w0 kp => ?_)
 simp only [↓sx0, xE, sevalprocAttr]
 refine CallI.fn (isWordT_s s) (by simp only [sx3, xR, sevalprocAttr] <;> (try simp) <;> (try rfl)) ?_
 simp only [↓sx0, xE, sevalprocAttr]
 refine EndW.fn ?_ ?_ <;> simp only [sx4, xK, sevalprocAttr] <;> (try simp [badW]) <;> (try omega)
/-- the error of a part. -/
def partErr (p : Pt) : Int :=
 if 1 ≤ p.kind ∧ p.kind ≤ 3 then (if p.words.length = 0 then 10 else if 100 < p.words.length then 8 else if p.words.any badW = true ∨ isMk (p.words.headD hash) = true then 3 else 0) else 15
theorem headD_get {α : Type} {l : List α} {d : α} (h : 0 < l.length) : l.headD d = l[0] := by
 cases l with
 | nil => simp at h
 | cons x l => rfl
theorem checkPart_s (b : Bool) (p : Pt) : Ctr Tryz.prog 84 [.agg [(.v (.int .i64 p.kind)), .sl b 1 (p.words.map eS)]] (fun rr => rr = ⟨(.v (.int .i64 (partErr p))), []⟩) := by
 refine Ctr.of (rs := [.tmp 2]) Tok true Tryz.func84 rfl rfl rfl rfl (by simp [ofDL]) (fun w0 kp => ?_)
 simp only [↓sx0, xE, sevalprocAttr]
 refine CallI.fn (withinT_s p.kind 1 3) (by simp only [sx3, xR, sevalprocAttr] <;> (try simp) <;> (try rfl)) ?_
 simp only [↓sx0, xE, sevalprocAttr]
 refine BrW.of (fun hk => ?_) (fun hk => ?_)
 ·have hk : 1 ≤ p.kind ∧ p.kind ≤ 3 := by simpa using hk
  simp only [↓sx0, xE, sevalprocAttr]
  refine BrW.dec (fun h0 => ?_) (fun h0 => ?_)
  ·simp only [↓sx0, xE, sevalprocAttr]
   rw [show partErr p = 10 by rw [partErr, if_pos hk, if_pos (by omega)]]
   refine EndW.fn ?_ ?_ <;> simp only [sx4, xK, sevalprocAttr] <;> (try simp) <;> (try omega)
  ·simp only [↓sx0, xE, sevalprocAttr]
   refine BrW.dec (fun h8 => ?_) (fun h8 => ?_)
   ·simp only [↓sx0, xE, sevalprocAttr]
    rw [show partErr p = 8 by rw [partErr, if_pos hk, if_neg (by omega), if_pos (by omega)]]
    refine EndW.fn ?_ ?_ <;> simp only [sx4, xK, sevalprocAttr] <;> (try simp) <;> (try omega)
   ·simp only [↓sx0, xE, sevalprocAttr]
    have hpe : partErr p = if p.words.any badW = true ∨ isMk (p.words.headD hash) = true then 3 else 0 := by rw [partErr, if_pos hk, if_neg (by omega), if_neg (by omega)]
    have hpos : 0 < p.words.length := by omega
    refine CallI.fn (containsS_s b 128 badW p.words (by omega) (fun x _ => part1_s x)) (by simp only [sx3, xR, sevalprocAttr] <;> (try simp) <;> (try rfl)) ?_
    simp only [↓sx0, xE, sevalprocAttr]
    refine BrW.of (fun hb => ?_) (fun hb => ?_)
    ·simp only [↓sx0, xE, sevalprocAttr]
     rw [hpe, if_pos (.inl hb)]
     refine EndW.fn ?_ ?_ <;> simp only [sx4, xK, sevalprocAttr] <;> (try simp) <;> (try omega)
    ·simp only [↓sx0, xE, sevalprocAttr]
     refine IxW.nat (j := 0) hpos ?_
     simp only [↓sx0, xE, sevalprocAttr]
     refine CallI.fn (isMark_s p.words[0]) (by simp only [sx3, xR, sevalprocAttr] <;> (try simp) <;> (try rfl)) ?_
     simp only [↓sx0, xE, sevalprocAttr]
     refine BrW.of (fun hm => ?_) (fun hm => ?_)
     ·simp only [↓sx0, xE, sevalprocAttr]
      rw [hpe, if_pos (.inr (by rw [headD_get hpos]; exact hm))]
      refine EndW.fn ?_ ?_ <;> simp only [sx4, xK, sevalprocAttr] <;> (try simp) <;> (try omega)
     ·simp only [↓sx0, xE, sevalprocAttr]
      rw [hpe, if_neg (by rw [headD_get hpos, hb, hm]; simp)]
      refine EndW.fn ?_ ?_ <;> simp only [sx4, xK, sevalprocAttr] <;> (try simp) <;> (try omega)
 ·have hk : ¬ (1 ≤ p.kind ∧ p.kind ≤ 3) := by simpa using hk
  simp only [↓sx0, xE, sevalprocAttr]
  rw [show partErr p = 15 by rw [partErr, if_neg hk]]
  refine EndW.fn ?_ ?_ <;> simp only [sx4, xK, sevalprocAttr] <;> (try simp) <;> (try omega)
/-- the number and the error of the first part that is wrong. -/
def partsE : Nat → List Pt → Int × Int
 | _, [] => (0, 0)
 | k, p :: l => if partErr p = 0 then partsE (k + 1) l else ((k : Int), partErr p)
def partsErr (l : List Pt) : Int × Int := if 60 < l.length then (0, 8) else partsE 0 l
theorem partsE_at {l : List Pt} {k : Nat} (h : k < l.length) (ht : partsE k (l.drop k) = partsE 0 l) : partsE 0 l = if partErr l[k] = 0 then partsE (k + 1) (l.drop (k + 1)) else ((k : Int), partErr l[k]) := by
 rw [← ht, List.drop_eq_getElem_cons h]
 rfl
theorem checkParts_s (b b2 : Bool) (l : List Pt) : Ctr Tryz.prog 54 [.sl b 2 (l.map (eP b2))] (fun rr => rr = ⟨.tup [(.v (.int .i64 ((partsErr l).1))), (.v (.int .i64 ((partsErr l).2)))], []⟩) := by
 refine Ctr.of (rs := [.tmp 2, .tmp 3]) Tok true Tryz.func54 rfl rfl rfl rfl (by simp [ofDL]) (fun w0 kp => ?_)
 simp only [↓sx0, xE, sevalprocAttr]
 refine BrW.dec (fun h1 => ?_) (fun h1 => ?_)
 ·simp only [↓sx0, xE, sevalprocAttr]
  rw [show partsErr l = (0, 8) by rw [partsErr, if_pos (by omega)]]
  refine EndW.fn ?_ ?_ <;> simp only [sx4, xK, sevalprocAttr] <;> (try simp) <;> (try omega)
 ·simp only [↓sx0, xE, sevalprocAttr]
  rw [show partsErr l = partsE 0 l by rw [partsErr, if_neg (by omega)]]
  refine LoopW.comp [10, 11, 12] (by simp only [sx2, xR, sevalprocAttr] <;> (try simp) <;> (try omega)) ?_
  simp only [sx2, sxR, sevalprocAttr]
  refine LoopW.up Tok (fun k : Nat => [(12, (.v (.int .i64 k)))]) (fun k => []) (fun k => []) (fun k => []) (fun k => k ≤ l.length ∧ partsE k (l.drop k) = partsE 0 l) (fun k => l.length - k) (0) (by simp only [sx2, xR, sevalprocAttr] <;> (try simp) <;> (try omega)) ?_ ?_
  ·exact ⟨by omega, rfl⟩
  rintro k ⟨hk, ht⟩
  simp only [↓sx0, xE, sevalprocAttr]
  refine BrW.dec (fun hlt => ?_) (fun hlt => ?_)
  ·simp only [↓sx0, xE, sevalprocAttr]
   have hlt : k < l.length := by omega
   have he := partsE_at hlt ht
   refine IxW.nat hlt ?_
   simp only [↓sx0, xE, sevalprocAttr]
   refine CallI.fn (checkPart_s b2 l[k]) (by simp only [sx3, xR, sevalprocAttr] <;> (try simp) <;> (try rfl)) ?_
   simp only [↓sx0, xE, sevalprocAttr]
   refine BrW.dec (fun hp => ?_) (fun hp => ?_)
   ·simp only [↓sx0, xE, sevalprocAttr]
    rw [if_neg hp] at he
    rw [he]
    refine EndW.fn ?_ ?_ <;> simp only [sx4, xK, sevalprocAttr] <;> (try simp) <;> (try omega)
   ·simp only [↓sx0, xE, sevalprocAttr]
    rw [if_pos (Decidable.not_not.1 hp)] at he
    repeat ((with_reducible refine Vc.go ?_ fun _ => ?_); (focus (first | omega | (simp only [InK]; omega) | (simp [InK] <;> omega))); simp only [↓sx0, xE, sevalprocAttr])
    refine ⟨k + 1, StLe.auto (by simp only [sx2, xR, sevalprocAttr] <;> (try simp) <;> (try omega)), ?_, ?_⟩
    ·exact ⟨hlt, he.symm⟩
    ·omega
  ·simp only [↓sx0, xE, sevalprocAttr]
   have hke : k = l.length := by omega
   subst hke
   rw [List.drop_length] at ht
   rw [← ht]
   refine EndW.fn ?_ ?_ <;> simp only [sx4, xK, sevalprocAttr] <;> (try simp [partsE]) <;> (try omega)
theorem checkCopy_s (b b2 : Bool) (l : List Pt) : Ctr Tryz.prog 48 [.sl b 2 (l.map (eP b2))] (fun rr => rr = ⟨(.v (.int .i64 ((partsErr l).2))), []⟩) := by
 refine Ctr.of (rs := [.tmp 2]) Tok true Tryz.func48 rfl rfl rfl rfl (by simp [ofDL]) (fun w0 kp => ?_)
 simp only [↓sx0, xE, sevalprocAttr]
 refine CallI.fn (checkParts_s b b2 l) (by simp only [sx3, xR, sevalprocAttr] <;> (try simp) <;> (try rfl)) ?_
 simp only [↓sx0, xE, sevalprocAttr]
 refine EndW.fn ?_ ?_ <;> simp only [sx4, xK, sevalprocAttr] <;> (try simp) <;> (try omega)
end Go.Proofs.YtgcmppghjfidfaaGreatDoor
/-
 Chapter 8, walks: lists of words.
-/
namespace Go.Proofs.YtgcmppghjfidfaaGreatDoor
open Go Go.Vx
set_option maxRecDepth 20000
theorem take_eq_succ {α : Type} {l m : List α} {k : Nat} (h1 : k < l.length) (h2 : k < m.length) (h : l.take k = m.take k) (e : l[k] = m[k]) : l.take (k + 1) = m.take (k + 1) := by
 rw [List.take_succ_eq_append_getElem h1, List.take_succ_eq_append_getElem h2, h, e]
theorem texts_s (b b' : Bool) (l m : List ByteArray) (hl : l.length ≤ 1000000000) : Ctr Tryz.prog 35 [.sl b 1 (l.map eS), .sl b' 1 (m.map eS)] (fun rr => rr = ⟨(.v (.bool (decide (l = m)))), []⟩) := by
 refine Ctr.of (rs := [.tmp 4]) Tok true Tryz.func35 rfl rfl rfl rfl (by simp [ofDL]) (fun w0 kp => ?_)
 simp only [↓sx0, xE, sevalprocAttr]
 refine BrW.dec (fun hn => ?_) (fun hn => ?_)
 ·simp only [↓sx0, xE, sevalprocAttr]
  have : ¬ l = m := fun h => hn (by rw [h])
  refine EndW.fn ?_ ?_ <;> simp only [sx4, xK, sevalprocAttr] <;> (try simp [this]) <;> (try omega)
 ·simp only [↓sx0, xE, sevalprocAttr]
  have hn2 : l.length = m.length := by omega
  refine LoopW.comp [0, 1, 5] (by simp only [sx2, xR, sevalprocAttr] <;> (try simp) <;> (try omega)) ?_
  simp only [sx2, sxR, sevalprocAttr]
  refine LoopW.up Tok (fun k : Nat => [(5, (.v (.int .i64 k)))]) (fun k => []) (fun k => []) (fun k => []) (fun k => k ≤ l.length ∧ l.take k = m.take k) (fun k => l.length - k) (0) (by simp only [sx2, xR, sevalprocAttr] <;> (try simp) <;> (try omega)) ?_ ?_
  ·exact ⟨by omega, by simp⟩
  rintro k ⟨hk, ht⟩
  simp only [↓sx0, xE, sevalprocAttr]
  refine BrW.dec (fun hlt => ?_) (fun hlt => ?_)
  ·simp only [↓sx0, xE, sevalprocAttr]
   have h1 : k < l.length := by omega
   have h2 : k < m.length := by omega
   refine DrawW.plan Tok mixed (.q 0 <| .q 1 <| .q 2 <| .q 3 <| .q 4 <| .q 5 <| .q 6 <| .q 7 <| .q 8 <| .done) (by kernel_rfl) (by kernel_rfl) ?_
   simp only [↓sx0, xE, sevalprocAttr]
   refine IxW.nat h1 ?_
   simp only [↓sx0, xE, sevalprocAttr]
   refine IxW.nat h2 ?_
   simp only [↓sx0, xE, sevalprocAttr]
   refine BrW.dec (fun hne => ?_) (fun hne => ?_)
   ·simp only [↓sx0, xE, sevalprocAttr]
    have : ¬ l = m := fun h => hne (by subst h; rfl)
    refine EndW.fn ?_ ?_ <;> simp only [sx4, xK, sevalprocAttr] <;> (try simp [this]) <;> (try omega)
   ·simp only [↓sx0, xE, sevalprocAttr]
    have he : l[k] = m[k] := by exact Decidable.not_not.1 hne
    (with_reducible refine Vc.go ?_ fun _ => ?_); focus (first | omega | (simp only [InK]; omega) | (simp [InK] <;> omega))
    simp only [↓sx0, xE, sevalprocAttr]
    refine ⟨k + 1, StLe.auto (by simp only [sx2, xR, sevalprocAttr] <;> (try simp) <;> (try omega)), ?_, ?_⟩
    ·exact ⟨h1, take_eq_succ h1 h2 ht he⟩
    ·omega
  ·simp only [↓sx0, xE, sevalprocAttr]
   have hke : k = l.length := by omega
   subst hke
   rw [List.take_length, hn2, List.take_length] at ht
   refine EndW.fn ?_ ?_ <;> simp only [sx4, xK, sevalprocAttr] <;> (try simp [ht]) <;> (try omega)
theorem grow_s (n : Nat) (hn : n ≤ 1000000) : Ctr Tryz.prog 166 [.v (.slice none 0 0), (.v (.int .i64 n))] (fun rr => rr = ⟨.row 0, [.own 9 1 []]⟩) := by
 refine Ctr.of (rs := [.tmp 4]) Tok false Tryz.func166 rfl rfl rfl rfl (by simp [ofDL]) (fun w0 kp => ?_)
 simp only [↓sx0, xE, sevalprocAttr]
 refine BrW.no (by omega) ?_
 simp only [↓sx0, xE, sevalprocAttr]
 (with_reducible refine Vc.go ?_ fun _ => ?_); focus (first | omega | (simp only [InK]; omega) | (simp [InK] <;> omega))
 simp only [↓sx0, xE, sevalprocAttr]
 (with_reducible refine Vc.go ?_ fun _ => ?_); focus (first | omega | (simp only [InK]; omega) | (simp [InK] <;> omega))
 simp only [↓sx0, xE, sevalprocAttr]
 refine BrW.dec (fun h => ?_) (fun h => ?_)
 ·simp only [↓sx0, xE, sevalprocAttr]
  (with_reducible refine Vc.go ?_ fun _ => ?_); focus (first | omega | (simp only [InK]; omega) | (simp [InK] <;> omega))
  simp only [↓sx0, xE, sevalprocAttr]
  (with_reducible refine Vc.go ?_ fun _ => ?_); focus (first | omega | (simp only [InK]; omega) | (simp [InK] <;> omega))
  simp only [↓sx0, xE, sevalprocAttr]
  (with_reducible refine Vc.go ?_ fun _ => ?_); focus (first | omega | (simp only [InK]; omega) | (simp [InK] <;> omega))
  simp only [↓sx0, xE, sevalprocAttr]
  exact EndW.r [some 1] (by simp) (by simp only [sx4, sxF, xK, sevalprocAttr] <;> simp) (by simp only [sx4, sxF, xK, sevalprocAttr] <;> simp) (by simp only [sx4, sxF, xK, sevalprocAttr] <;> simp) (by simp only [sx4, sxF, xK, sevalprocAttr] <;> simp)
 ·simp only [↓sx0, xE, sevalprocAttr]
  exact EndW.r [none] (by simp) (by simp only [sx4, sxF, xK, sevalprocAttr] <;> simp) (by simp only [sx4, sxF, xK, sevalprocAttr] <;> simp) (by simp only [sx4, sxF, xK, sevalprocAttr] <;> simp) (by simp only [sx4, sxF, xK, sevalprocAttr] <;> simp)
def eSL (p : Bool × List ByteArray) : List D := [.sl p.1 1 (p.2.map eS)]
def cat (ls : List (Bool × List ByteArray)) : List ByteArray := ls.flatMap Prod.snd
theorem lens_take {ls : List (Bool × List ByteArray)} {k : Nat} (h : k < ls.length) : cat (ls.take (k + 1)) = cat (ls.take k) ++ ls[k].2 := by
 rw [List.take_succ_eq_append_getElem h, cat, List.flatMap_append, cat]; simp only [List.flatMap_cons, List.flatMap_nil, List.append_nil]
theorem lens_le (ls : List (Bool × List ByteArray)) (k : Nat) : (cat (ls.take k)).length ≤ (cat ls).length := by
 conv => rhs; rw [← List.take_append_drop k ls, cat, List.flatMap_append, List.length_append]
 unfold cat
 omega
theorem concat_s (b : Bool) (ls : List (Bool × List ByteArray)) (hn : ls.length ≤ 1000) (hl : (cat ls).length ≤ 1000000) :
  Ctr Tryz.prog 124 [.sl b 1 (ls.map eSL)] (fun rr => rr = ⟨.row 0, [.own 9 1 ((cat ls).map eS)]⟩) := by
 have encs := And.intro encs (show ∀ p, eSL p = [.sl p.1 1 (p.2.map eS)] from fun _ => rfl)
 refine Ctr.of (rs := [.tmp 2]) Tok false Tryz.func124 rfl rfl rfl rfl (by simp [ofDL]) (fun w0 kp => ?_)
 simp only [↓sx0, sxE, encs, sevalprocAttr]
 refine LoopW.comp [0, 3, 9, 10, 11] (by simp only [sx2, encs, sxR, sevalprocAttr] <;> (try simp) <;> (try omega)) ?_
 simp only [sx2, sxR, sevalprocAttr]
 refine LoopW.up Tok (fun k : Nat => [(3, (.v (.int .i64 ((cat (ls.take k)).length)))), (11, (.v (.int .i64 k)))]) (fun k => []) (fun k => []) (fun k => []) (fun k => k ≤ ls.length) (fun k => ls.length - k) (0) (by simp only [sx2, encs, sxR, sevalprocAttr] <;> (try simp [cat, encs]) <;> (try omega)) ?_ ?_
 ·omega
 rintro k hk
 have hb := lens_le ls k
 simp only [↓sx0, sxE, encs, sevalprocAttr]
 refine BrW.dec (fun hlt => ?_) (fun hlt => ?_)
 ·simp only [↓sx0, sxE, encs, sevalprocAttr]
  have hk' : k < ls.length := by omega
  have hb2 := lens_le ls (k + 1)
  rw [lens_take hk', List.length_append] at hb2
  refine IxW.nat hk' ?_
  simp only [↓sx0, sxE, encs, sevalprocAttr]
  (with_reducible refine Vc.go ?_ fun _ => ?_); focus (first | omega | (simp only [InK]; omega) | (simp [InK] <;> omega))
  simp only [↓sx0, sxE, encs, sevalprocAttr]
  refine BrW.no (by omega) ?_
  simp only [↓sx0, sxE, encs, sevalprocAttr]
  (with_reducible refine Vc.go ?_ fun _ => ?_); focus (first | omega | (simp only [InK]; omega) | (simp [InK] <;> omega))
  simp only [↓sx0, sxE, encs, sevalprocAttr]
  refine ⟨k + 1, StLe.auto (by simp only [sx2, encs, sxR, sevalprocAttr] <;> (try simp [lens_take hk', encs]) <;> (try omega)), ?_, ?_⟩
  ·omega
  ·omega
 ·simp only [↓sx0, sxE, encs, sevalprocAttr]
  have hke : k = ls.length := by omega
  subst hke
  rw [List.take_length]
  refine CallI.ctr (grow_s (cat ls).length hl) (by simp only [sx3, encs, sxR, sevalprocAttr] <;> (try simp) <;> (try rfl)) ?_
  rintro _ rfl
  simp only [↓sx0, sxE, encs, sevalprocAttr]
  refine LoopW.comp [6, 25, 26, 27] (by simp only [sx2, encs, sxR, sevalprocAttr] <;> (try simp) <;> (try omega)) ?_
  simp only [sx2, sxR, sevalprocAttr]
  refine LoopW.up Tok (fun k : Nat => [(27, (.v (.int .i64 k)))]) (fun k => []) (fun k => [(0, (cat (ls.take k)).map eS)]) (fun k => []) (fun k => k ≤ ls.length) (fun k => ls.length - k) (0) (by simp only [sx2, encs, sxR, sevalprocAttr] <;> (try simp [cat, encs]) <;> (try omega)) ?_ ?_
  ·omega
  rintro k hk
  have hb := lens_le ls k
  simp only [↓sx0, sxE, encs, sevalprocAttr]
  refine BrW.dec (fun hlt => ?_) (fun hlt => ?_)
  ·simp only [↓sx0, sxE, encs, sevalprocAttr]
   have hk' : k < ls.length := by omega
   have hb2 := lens_le ls (k + 1)
   rw [lens_take hk', List.length_append] at hb2
   refine IxW.nat hk' ?_
   simp only [↓sx0, sxE, encs, sevalprocAttr]
   (with_reducible refine Vc.go ?_ fun _ => ?_); focus (first | omega | (simp only [InK]; omega) | (simp [InK] <;> omega))
   simp only [↓sx0, sxE, encs, sevalprocAttr]
   (with_reducible refine Vc.go ?_ fun _ => ?_); focus (first | omega | (simp only [InK]; omega) | (simp [InK] <;> omega))
   simp only [↓sx0, sxE, encs, sevalprocAttr]
   refine ⟨k + 1, StLe.auto (by simp only [sx2, encs, sxR, sevalprocAttr] <;> (try simp [lens_take hk', encs]) <;> (try omega)), ?_, ?_⟩
   ·omega
   ·omega
  ·simp only [↓sx0, sxE, encs, sevalprocAttr]
   have hke : k = ls.length := by omega
   subst hke
   rw [List.take_length]
   exact EndW.r [some 0] (by simp) (by simp only [sx4, sxF, encs, kpLL_map, sxR, sevalprocAttr] <;> simp [kpLL_map, encs, kpL, kpD]) (by simp only [sx4, sxF, encs, kpLL_map, sxR, sevalprocAttr] <;> simp [kpLL_map, encs, kpL, kpD]) (by simp only [sx4, sxF, encs, kpLL_map, sxR, sevalprocAttr] <;> simp [kpLL_map, encs, kpL, kpD]) (by simp only [sx4, sxF, encs, kpLL_map, sxR, sevalprocAttr] <;> simp [kpLL_map, encs, kpL, kpD])
/-- the error of two lists of words. -/
def wdsErr (a b : List ByteArray) : Int := if a.length ≤ 40 ∧ b.length ≤ 40 then (if (a ++ b).any badW = true then 3 else 0) else 8
def AllSz (l : List ByteArray) : Prop := ∀ s ∈ l, s.size ≤ 1000000000
end Go.Proofs.YtgcmppghjfidfaaGreatDoor
/-
 Chapter 2, walks: exceptions and bars are checked (the reference).
-/
namespace Go.Proofs.YtgcmppghjfidfaaGreatDoor
open Go Go.Vx
set_option maxRecDepth 20000
def HasP (l : List ByteArray) (s : ByteArray) (rr : Ret) : Prop := ∃ e : Bool, rr = ⟨(.v (.bool (e))), []⟩ ∧ (e = false → ∀ j (h : j < l.length), l[j] ≠ s)
theorem hasTextN_s (b : Bool) (l : List ByteArray) (s : ByteArray) (hl : l.length ≤ 1000000) : Ctr Tryz.prog 133 [.sl b 1 (l.map eS), (.v (.string (s)))] (HasP l s) := by
 refine Ctr.of (rs := [.tmp 4]) Tok true Tryz.func133 rfl rfl rfl rfl (by simp [ofDL]) (fun w0 kp => ?_)
 simp only [↓sx0, xE, sevalprocAttr]
 refine LoopW.comp [0, 1, 5] (by simp only [sx2, xR, sevalprocAttr] <;> (try simp) <;> (try omega)) ?_
 simp only [sx2, sxR, sevalprocAttr]
 refine LoopW.up Tok (fun k : Nat => [(5, (.v (.int .i64 k)))]) (fun k => []) (fun k => []) (fun k => []) (fun k => k ≤ l.length ∧ ∀ j (_ : j < k) (h : j < l.length), l[j] ≠ s) (fun k => l.length - k) (0) (by simp only [sx2, xR, sevalprocAttr] <;> (try simp) <;> (try omega)) ?_ ?_
 ·exact ⟨by omega, fun j h => by omega⟩
 rintro k ⟨hk, hb⟩
 simp only [↓sx0, xE, sevalprocAttr]
 by_cases hk2 : k < l.length
 ·refine BrW.yes (by omega) ?_
  simp only [↓sx0, xE, sevalprocAttr]
  refine IxW.nat hk2 ?_
  simp only [↓sx0, xE, sevalprocAttr]
  refine BrW.dec (fun he => ?_) (fun he => ?_)
  ·simp only [↓sx0, xE, sevalprocAttr]
   exact EndB ⟨_, rfl, fun h => by cases h⟩
  simp only [↓sx0, xE, sevalprocAttr]
  (with_reducible refine Vc.go ?_ fun _ => ?_); focus (first | omega | (simp only [InK]; omega) | (simp [InK] <;> omega))
  simp only [↓sx0, xE, sevalprocAttr]
  refine ⟨k + 1, StLe.auto (by simp only [sx2, xR, sevalprocAttr] <;> (try simp) <;> (try omega)), ?_, ?_⟩
  ·refine ⟨by omega, fun j h h2 => ?_⟩
   by_cases hjk : j = k
   ·subst hjk; exact he
   ·exact hb j (by omega) h2
  ·omega
 ·refine BrW.no (by omega) ?_
  simp only [↓sx0, xE, sevalprocAttr]
  exact EndB ⟨_, rfl, fun _ j h => hb j (by omega) h⟩
structure MkG (c : UInt8) (lt : Bool) (s : ByteArray) : Prop where
 na : NA c s.data.toList false = true
 sz : 1 ≤ (mkL c s.data.toList).length ∧ (mkL c s.data.toList).length ≤ 30
 pn : lt = false → c ∈ s.data.toList
 hb : ∀ b ∈ mkL c s.data.toList, okB b = true ∧ (lt = true → smB b = true)
structure MkAll (c : UInt8) (lt : Bool) (l : List ByteArray) : Prop where
 len : l.length ≤ 40
 all : ∀ k (h : k < l.length), MkG c lt l[k]
 dis : ∀ k (h : k < l.length) j (h2 : j < k), mkL c l[j].data.toList ≠ mkL c l[k].data.toList
theorem MkOk.g {c : UInt8} {lt : Bool} {s w : ByteArray} {ps : List Int} (h : MkOk c lt s w ps) (hp : lt = false → ps ≠ []) : MkG c lt s := by
 have hw : w.data.toList.length = w.size := by simp
 rw [h.hw] at hw
 exact ⟨h.na, by rw [hw]; exact h.sz, fun e => h.pn (hp e), h.hb⟩
set_option maxHeartbeats 4000000 in
theorem checkMarked_s (b : Bool) (l : List ByteArray) (c : UInt8) (lt : Bool) (hl : l.length ≤ 1000000) (hs : ∀ s ∈ l, s.size ≤ 1000000) : Ctr Tryz.prog 90 [.sl b 1 (l.map eS), .v (.int .u8 (c.toNat : Int)), (.v (.bool (lt)))] (ZII (MkAll c lt l)) := by
 refine Ctr.of (rs := [.tmp 6, .tmp 7]) Tok true Tryz.func90 rfl rfl rfl rfl (by simp [ofDL]) (fun w0 kp => ?_)
 simp only [↓sx0, xE, sevalprocAttr]
 repeat' (first | (with_reducible refine BrW.yes (by omega) ?_) | (with_reducible refine BrW.no (by omega) ?_) | (with_reducible refine BrW.dec (fun _ => ?_) (fun _ => ?_)) | (with_reducible refine BrW.of (fun _ => ?_) (fun _ => ?_)) | ((with_reducible refine Vc.go ?_ fun _ => ?_); (focus (first | omega | (simp only [InK]; omega) | (simp [InK] <;> omega)))) | simp only [↓sx0, xE, sevalprocAttr])
 all_goals try exact EndII ⟨_, _, rfl, fun h => by omega⟩
 refine LoopW.comp [0, 1, 2, 8, 9] (by simp only [sx2, xR, sevalprocAttr] <;> (try simp) <;> (try omega)) ?_
 simp only [sx2, sxR, sevalprocAttr]
 refine LoopW.up Tok (fun x : Nat × List ByteArray => [(8, .row 0), (9, (.v (.int .i64 x.1)))]) (fun x => []) (fun x => []) (fun x => [.own 9 1 (x.2.map eS)]) (fun x => x.1 ≤ l.length ∧ x.2.map (·.data.toList) = (l.take x.1).map (fun s => mkL c s.data.toList) ∧ (∀ k (_ : k < x.1) (h : k < l.length), MkG c lt l[k]) ∧ (∀ k (_ : k < x.1) (h : k < l.length) j (h2 : j < k), mkL c l[j].data.toList ≠ mkL c l[k].data.toList)) (fun x => l.length - x.1) ((0, [])) (by simp only [sx2, xR, sevalprocAttr] <;> (try simp) <;> (try omega)) ?_ ?_
 ·exact ⟨by omega, by simp, fun k h => by omega, fun k h => by omega⟩
 rintro ⟨k, kn⟩ ⟨hk, hp, hg, hd⟩
 simp only at hk hp hg hd
 have hkn : kn.length = k := by
  have := congrArg List.length hp
  simp at this
  omega
 simp only [↓sx0, xE, sevalprocAttr]
 by_cases hk2 : k < l.length
 ·refine BrW.yes (by omega) ?_
  simp only [↓sx0, xE, sevalprocAttr]
  refine IxW.nat hk2 ?_
  simp only [↓sx0, xE, sevalprocAttr]
  refine CallI.ctr (readMarked_s l[k] c lt (hs _ (List.getElem_mem hk2))) (by simp only [sx3, xR, sevalprocAttr] <;> (try simp) <;> (try rfl)) ?_
  rintro _ ⟨w, ps, ok, rfl, hw, hok⟩
  simp only [↓sx0, xE, sevalprocAttr]
  refine BrW.of (fun hbk => ?_) (fun hbk => ?_)
  rotate_left
  ·repeat' (first | (with_reducible refine BrW.yes (by omega) ?_) | (with_reducible refine BrW.no (by omega) ?_) | (with_reducible refine BrW.dec (fun _ => ?_) (fun _ => ?_)) | (with_reducible refine BrW.of (fun _ => ?_) (fun _ => ?_)) | ((with_reducible refine Vc.go ?_ fun _ => ?_); (focus (first | omega | (simp only [InK]; omega) | (simp [InK] <;> omega)))) | simp only [↓sx0, xE, sevalprocAttr])
   all_goals exact EndII ⟨_, _, rfl, fun h => by omega⟩
  have hpk : ∀ j (h : j < kn.length), kn[j].data.toList = mkL c (l[j]'(by omega)).data.toList := fun j h => by
   have e1 : (kn.map (·.data.toList))[j]? = some kn[j].data.toList := by rw [List.getElem?_map, List.getElem?_eq_getElem h]; rfl
   rw [hp, List.getElem?_map, List.getElem?_take_of_lt (by omega), List.getElem?_eq_getElem (show j < l.length by omega)] at e1
   exact (Option.some.inj e1).symm
  repeat' (first | (with_reducible refine BrW.yes (by omega) ?_) | (with_reducible refine BrW.no (by omega) ?_) | (with_reducible refine BrW.dec (fun hq => ?_) (fun hq => ?_)) | (with_reducible refine BrW.of (fun hlt => ?_) (fun hlt => ?_)) | simp only [↓sx0, xE, sevalprocAttr] | ((with_reducible refine Vc.go ?_ fun _ => ?_); (focus (first | omega | (simp only [InK]; omega)))))
  all_goals try exact EndII ⟨_, _, rfl, fun h => by omega⟩
  all_goals
   refine CallI.ctr (hasTextN_s false kn w (by omega)) (by simp only [sx3, xR, sevalprocAttr] <;> (try simp) <;> (try rfl)) ?_
   rintro _ ⟨h, rfl, hhas⟩
   simp only [↓sx0, xE, sevalprocAttr]
   refine BrW.of (fun hb2 => ?_) (fun hb2 => ?_)
   ·repeat' (first | (with_reducible refine BrW.yes (by omega) ?_) | (with_reducible refine BrW.no (by omega) ?_) | (with_reducible refine BrW.dec (fun _ => ?_) (fun _ => ?_)) | (with_reducible refine BrW.of (fun _ => ?_) (fun _ => ?_)) | ((with_reducible refine Vc.go ?_ fun _ => ?_); (focus (first | omega | (simp only [InK]; omega) | (simp [InK] <;> omega)))) | simp only [↓sx0, xE, sevalprocAttr])
    all_goals exact EndII ⟨_, _, rfl, fun h => by omega⟩
   repeat' (first | (with_reducible refine BrW.yes (by omega) ?_) | (with_reducible refine BrW.no (by omega) ?_) | (with_reducible refine BrW.dec (fun _ => ?_) (fun _ => ?_)) | (with_reducible refine BrW.of (fun _ => ?_) (fun _ => ?_)) | ((with_reducible refine Vc.go ?_ fun _ => ?_); (focus (first | omega | (simp only [InK]; omega) | (simp [InK] <;> omega)))) | simp only [↓sx0, xE, sevalprocAttr])
   have hmap : (kn ++ [w]).map eS = kn.map eS ++ [[.v (.string w)]] := by simp [eS]
   have hwk := (hok hbk).hw
   refine ⟨(k + 1, kn ++ [w]), StLe.auto (by simp only [sx2, xR, sevalprocAttr] <;> (try simp [hmap, encs]) <;> (try omega)), ?_, ?_⟩
   ·refine ⟨by omega, ?_, fun j h h2 => ?_, fun j h h2 i h3 => ?_⟩
    ·simp only
     rw [List.map_append, hp, List.take_add_one, List.getElem?_eq_getElem hk2, List.map_append]
     congr 1
     simp [hwk]
    ·by_cases hjk : j = k
     ·subst hjk
      exact (hok hbk).g (by first | (intro e; exact absurd (hlt.symm.trans e) (by decide)) | (intro _ e; subst e; simp at hq) | (intro _ e; subst e; exact absurd hq (by simp)))
     ·exact hg j (by simp only at h; omega) h2
    ·by_cases hjk : j = k
     ·subst hjk
      intro e
      refine hhas hb2 i (by omega) ?_
      rw [← hpk i (by omega), ← hwk] at e
      exact ByteArray.ext (Array.toList_inj.1 e)
     ·exact hd j (by simp only at h; omega) h2 i h3
   ·simp only; omega
 ·refine BrW.no (by omega) ?_
  simp only [↓sx0, xE, sevalprocAttr]
  exact EndII ⟨_, _, rfl, fun _ => ⟨by omega, fun k h => hg k (by omega) h, fun k h => hd k (by omega) h⟩⟩
end Go.Proofs.YtgcmppghjfidfaaGreatDoor
/-
  Chapter 2, walks: patterns are read (the reference).
-/
namespace Go.Proofs.YtgcmppghjfidfaaGreatDoor
open Go Go.Vx
set_option maxRecDepth 20000
def dgtB (c : UInt8) : Bool := decide (48 ≤ c.toNat ∧ c.toNat ≤ 57)
def PG : Bool → List UInt8 → Nat → Bool
  | _, [], n => decide (1 ≤ n ∧ n ≤ 16)
  | dg, b :: l, n => if smB b = true then PG false l (n + 1) else if dgtB b = true ∧ dg = false then PG true l n else false
def tailD (l : List UInt8) : List UInt8 := if l.head? = some 46 then l.tail else l
def initD (l : List UInt8) : List UInt8 := if l.getLast? = some 46 then l.dropLast else l
def stripL (l : List UInt8) : List UInt8 := initD (tailD l)
def RdPat (s : ByteArray) (rr : Ret) : Prop := ∃ (it : ByteArray) (lv : List Int) (ok : Bool), rr = ⟨.tup [.agg [(.v (.string (it))), .sl true 1 (lv.map eI)], (.v (.bool (ok)))], []⟩ ∧ (ok = true → PG false (stripL s.data.toList) 0 = true)
theorem strip_cases (s : ByteArray) : ∃ X : ByteArray, X.data.toList = stripL s.data.toList ∧ X.size ≤ s.size ∧
    ((s.size = 0 ∧ s = X) ∨
     (∃ b, s.size = 1 ∧ s.data.toList[0]? = some b ∧ (((b.toNat : Int) = 46 ∧ s.extract 1 s.size = X) ∨ (¬ (b.toNat : Int) = 46 ∧ s = X))) ∨
     (∃ b z, 1 < s.size ∧ s.data.toList[0]? = some b ∧ s.data.toList[s.size - 1]? = some z ∧
       (((b.toNat : Int) = 46 ∧ (z.toNat : Int) = 46 ∧ (s.extract 1 s.size).extract 0 (((s.extract 1 s.size).size : Int) - 1).toNat = X) ∨
        ((b.toNat : Int) = 46 ∧ ¬ (z.toNat : Int) = 46 ∧ s.extract 1 s.size = X) ∨
        (¬ (b.toNat : Int) = 46 ∧ (z.toNat : Int) = 46 ∧ s.extract 0 ((s.size : Int) - 1).toNat = X) ∨
        (¬ (b.toNat : Int) = 46 ∧ ¬ (z.toNat : Int) = 46 ∧ s = X)))) := by
  have hsl := size_list s
  have hx1 : ∀ l : List UInt8, l.extract 1 l.length = l.tail := fun l => by
    rw [List.extract_eq_take_drop, List.drop_one]; exact List.take_of_length_le (by simp)
  have hx0 : ∀ l : List UInt8, l.extract 0 (l.length - 1) = l.dropLast := fun l => by
    rw [List.extract_eq_take_drop, List.drop_zero, Nat.sub_zero, List.dropLast_eq_take]
  have e1 : (s.extract 1 s.size).data.toList = s.data.toList.tail := by
    rw [ByteArray.data_extract, Array.toList_extract, ← hsl, hx1]
  have e0 : ∀ u : ByteArray, (u.extract 0 ((u.size : Int) - 1).toNat).data.toList = u.data.toList.dropLast := fun u => by
    rw [ByteArray.data_extract, Array.toList_extract, show ((u.size : Int) - 1).toNat = u.size - 1 by omega, ← size_list u, hx0]
  have n46 : ∀ b : UInt8, (b.toNat : Int) = 46 ↔ b = 46 := fun b => ⟨fun h => UInt8.toNat_inj.1 (by rw [show (46 : UInt8).toNat = 46 from rfl]; omega), fun h => by rw [h]; rfl⟩
  have h46 : ((46 : UInt8).toNat : Int) = 46 := rfl
  have hsz : ∀ u : ByteArray, u.data.toList = stripL s.data.toList → u.size ≤ s.size := fun u hu => by
    have h1 : (tailD s.data.toList).length ≤ s.data.toList.length := by unfold tailD; split <;> simp
    have h2 : ∀ l : List UInt8, (initD l).length ≤ l.length := fun l => by unfold initD; split <;> simp
    have := h2 (tailD s.data.toList)
    have h3 := congrArg List.length hu
    rw [size_list] at h3
    unfold stripL at h3
    omega
  have fin : ∀ u : ByteArray, u.data.toList = stripL s.data.toList → ∀ C : ByteArray → Prop, C u → ∃ X : ByteArray, X.data.toList = stripL s.data.toList ∧ X.size ≤ s.size ∧ C X := fun u hu C hC => ⟨u, hu, hsz u hu, hC⟩
  have hlen := hsl
  obtain ⟨l, hl⟩ : ∃ l, s.data.toList = l := ⟨_, rfl⟩
  rcases l with _ | ⟨b, r⟩
  · rw [hl] at hlen
    refine fin s (by rw [hl]; rfl) _ ?_
    exact .inl ⟨by simpa using hlen.symm, rfl⟩
  · cases r with
    | nil =>
      rw [hl] at hlen
      by_cases hb : b = 46
      · refine fin _ (by rw [e1, hl, hb]; rfl) _ ?_
        exact .inr (.inl ⟨b, by simpa using hlen.symm, by (rw [hl]; rfl), .inl ⟨by rw [hb]; rfl, rfl⟩⟩)
      · refine fin s (by rw [hl]; simp [stripL, tailD, initD, hb]) _ ?_
        exact .inr (.inl ⟨b, by simpa using hlen.symm, by (rw [hl]; rfl), .inr ⟨fun h => hb ((n46 b).1 h), rfl⟩⟩)
    | cons c r =>
      have hg : (c :: r).getLast? = some ((c :: r).getLast (by simp)) := List.getLast?_eq_some_getLast _
      have hg2 : (b :: c :: r).getLast? = some ((c :: r).getLast (by simp)) := by rw [List.getLast?_cons_cons, hg]
      generalize (c :: r).getLast (by simp) = z at hg hg2
      have hz : s.data.toList[s.size - 1]? = some z := by rw [← hg2, ← hl, List.getLast?_eq_getElem?, hsl]
      rw [hl] at hlen
      have h1 : 1 < s.size := by rw [← hlen]; simp
      by_cases hb : b = 46 <;> by_cases hzz : z = 46
      · refine fin _ (by rw [e0, e1, hl, hb, stripL, tailD, if_pos (by rfl), initD, List.tail_cons, if_pos (by rw [hg, hzz])]) _ ?_
        exact .inr (.inr ⟨b, z, h1, by (rw [hl]; rfl), hz, .inl ⟨by rw [hb]; rfl, by rw [hzz]; rfl, rfl⟩⟩)
      · refine fin _ (by rw [e1, hl, hb, stripL, tailD, if_pos (by rfl), initD, List.tail_cons, if_neg (by rw [hg]; simpa using hzz)]) _ ?_
        exact .inr (.inr ⟨b, z, h1, by (rw [hl]; rfl), hz, .inr (.inl ⟨by rw [hb]; rfl, fun h => hzz ((n46 z).1 h), rfl⟩)⟩)
      · refine fin _ (by rw [e0, hl, stripL, tailD, if_neg (by simpa using hb), initD, if_pos (by rw [hg2, hzz])]) _ ?_
        exact .inr (.inr ⟨b, z, h1, by (rw [hl]; rfl), hz, .inr (.inr (.inl ⟨fun h => hb ((n46 b).1 h), by rw [hzz]; rfl, rfl⟩))⟩)
      · refine fin s (by rw [hl, stripL, tailD, if_neg (by simpa using hb), initD, if_neg (by rw [hg2]; simpa using hzz)]) _ ?_
        exact .inr (.inr ⟨b, z, h1, by (rw [hl]; rfl), hz, .inr (.inr (.inr ⟨fun h => hb ((n46 b).1 h), fun h => hzz ((n46 z).1 h), rfl⟩))⟩)
theorem StrIx.at0 {s : ByteArray} {b : UInt8} {k : SV → Prop} (hb : s.data.toList[0]? = some b) (hk : k (.v (.int .u8 (b.toNat : Int)))) : StrIx s 0 k ⟨⟩ := StrIx.is hb hk
theorem StrIx.atZ {s : ByteArray} {b : UInt8} {k : SV → Prop} (hs : 1 < s.size) (hb : s.data.toList[s.size - 1]? = some b) (hk : k (.v (.int .u8 (b.toNat : Int)))) : StrIx s ((s.size : Int) - 1) k ⟨⟩ := by
  have := StrIx.is hb hk
  rwa [show ((s.size - 1 : Nat) : Int) = (s.size : Int) - 1 by omega] at this
set_option maxHeartbeats 100000000 in
theorem readPattern_s (s : ByteArray) (hs : s.size ≤ 1000000) : Ctr Tryz.prog 89 [(.v (.string (s)))] (RdPat s) := by
  have hsl := size_list s
  obtain ⟨X, hXL, hXs, hcs⟩ := strip_cases s
  have hQ : ∀ it lv ok, (ok = true → PG false X.data.toList 0 = true) → RdPat s ⟨.tup [.agg [(.v (.string (it))), .sl true 1 (List.map eI lv)], (.v (.bool (ok)))], []⟩ := fun it lv ok h => ⟨it, lv, ok, rfl, fun e => by rw [← hXL]; exact h e⟩
  generalize RdPat s = Q at hQ
  refine Ctr.of (rs := [.cell 2 162, .tmp 3]) Tok true Tryz.func89 rfl rfl rfl rfl (by simp [ofDL]) (fun w0 kp => ?_)
  simp only [↓sx0, xE, sevalprocAttr]
  rcases hcs with ⟨h0, hX⟩ | ⟨b, h0, hb, ⟨hc, hX⟩ | ⟨hc, hX⟩⟩ | ⟨b, z, h0, hb, hz, ⟨hc, hd, hX⟩ | ⟨hc, hd, hX⟩ | ⟨hc, hd, hX⟩ | ⟨hc, hd, hX⟩⟩
  all_goals
    refine DrawW.plan Tok mixed (.q 0 <| .q 1 <| .q 2 <| .q 3 <| .q 4 <| .q 8 <| .q 9 <| .q 10 <| .q 11 <| .q 12 <| .q 13 <| .q 14 <| .q 15 <| .e2 5 [] (.q 6 <| .q 7 <| .q 19 <| .e 16 [] <| .q 17 <| .q 18 <| .q 20 <| .done) 16 [] (.q 17 <| .q 18 <| .e 5 [] <| .q 6 <| .q 7 <| .q 19 <| .q 20 <| .done)) (by kernel_rfl) (by kernel_rfl) ?_
    simp only [↓sx0, xE, sevalprocAttr]
    repeat' (first | (with_reducible refine And.intro ?_ ?_) | (with_reducible refine StrIx.at0 hb ?_) | (with_reducible refine StrIx.atZ h0 hz ?_) | (with_reducible refine BrW.yes (by omega) ?_) | (with_reducible refine BrW.no (by omega) ?_) | simp only [↓sx0, xE, sevalprocAttr] | ((with_reducible refine Vc.go ?_ fun _ => ?_); (focus (first | omega | (simp only [InK]; omega) | (simp [InK]; omega)))))
  all_goals
    simp only [hX]
    have hXl := size_list X
    have hX1 : X.size ≤ 1000000 := by omega
    refine LoopW.comp [0, 2, 4, 6, 7, 8, 9, 10] (by simp only [sx2, xR, sevalprocAttr] <;> (try simp) <;> (try omega)) ?_
    simp only [sx2, sxR, sevalprocAttr]
    first
      | (refine LoopW.up Tok (fun x : Nat × ByteArray × List Int × Int × Nat × Bool => [(7, (.v (.int .i64 x.2.2.2.1))), (8, (.v (.int .i64 ((x.2.2.2.2.1 : Int))))), (9, (.v (.bool (x.2.2.2.2.2)))), (10, (.v (.int .i64 ((x.1 : Int)))))]) (fun x => [(1, [(.v (.string (x.2.1))), .row 0])]) (fun x => []) (fun x => [.own 3 1 (x.2.2.1.map eI)]) (fun x => x.1 ≤ X.size ∧ PG x.2.2.2.2.2 (X.data.toList.drop x.1) x.2.2.2.2.1 = PG false X.data.toList 0 ∧ x.2.2.1.length ≤ x.1 + 1 ∧ x.2.2.2.2.1 ≤ x.1 ∧ x.2.1.size ≤ x.1 + 1 ∧ 0 ≤ x.2.2.2.1 ∧ x.2.2.2.1 ≤ 9) (fun x => X.size - x.1) ((0, ⟨#[]⟩, [], 0, 0, false)) ?_ ?_ ?_; (focus ((simp only [sx2, xR, sevalprocAttr] <;> (try simp [eI, encs]) <;> (try omega)); done)))
      | (refine LoopW.up Tok (fun x : Nat × ByteArray × List Int × Int × Nat × Bool => [(7, (.v (.int .i64 x.2.2.2.1))), (8, (.v (.int .i64 ((x.2.2.2.2.1 : Int))))), (9, (.v (.bool (x.2.2.2.2.2)))), (10, (.v (.int .i64 ((x.1 : Int)))))]) (fun x => [(1, [(.v (.string (x.2.1))), .row 0])]) (fun x => [(0, x.2.2.1.map eI)]) (fun x => []) (fun x => x.1 ≤ X.size ∧ PG x.2.2.2.2.2 (X.data.toList.drop x.1) x.2.2.2.2.1 = PG false X.data.toList 0 ∧ x.2.2.1.length ≤ x.1 + 1 ∧ x.2.2.2.2.1 ≤ x.1 ∧ x.2.1.size ≤ x.1 + 1 ∧ 0 ≤ x.2.2.2.1 ∧ x.2.2.2.1 ≤ 9) (fun x => X.size - x.1) ((0, ⟨#[46]⟩, [0], 0, 0, false)) ?_ ?_ ?_; (focus ((simp only [sx2, xR, sevalprocAttr] <;> (try simp [eI, encs]) <;> (try omega)); done)))
    · exact ⟨Nat.zero_le _, rfl, by simp, Nat.le_refl _, by simp [ByteArray.size], by simp, by simp⟩
    rintro ⟨k, it, lv, lev, nl, dg⟩ ⟨hk, hpg, hlv, hnl, hit, hv0, hv9⟩
    simp only at hk hpg hlv hnl hit hv0 hv9
    simp only [↓sx0, xE, sevalprocAttr]
    by_cases hk2 : k < X.size
    · obtain ⟨c, hcX⟩ : ∃ c, X.data.toList[k]? = some c := ⟨_, List.getElem?_eq_getElem (by omega)⟩
      rw [drop_at hcX, PG] at hpg
      have hds : dgtB c = true → smB c = false := by simp only [dgtB, smB, decide_eq_true_eq, decide_eq_false_iff_not]; omega
      repeat' (first | (with_reducible refine And.intro ?_ ?_) | (with_reducible refine StrIx.is hcX ?_) | (with_reducible refine BrW.yes (by omega) ?_) | (with_reducible refine BrW.no (by omega) ?_) | (with_reducible refine BrW.dec (fun hq => ?_) (fun hq => ?_)) | (with_reducible refine BrW.of (fun ho => ?_) (fun ho => ?_)) | simp only [↓sx0, xE, sevalprocAttr] | (refine CallI.fn (isSmallR_s c) ?_ ?_; (focus ((simp only [sx3, xR, sevalprocAttr] <;> (try simp) <;> (try rfl)); done))) | ((with_reducible refine Vc.go ?_ fun _ => ?_); (focus (first | omega | (simp only [InK]; omega) | (simp [InK]; omega)))))
      all_goals try exact EndW.p (.tup [.agg [(.v (.string (it))), .sl true 1 (lv.map eI)], (.v (.bool (false)))]) (hQ it lv false (fun h => by cases h)) (by simp [leV, leL]) (by simp [kpV, kpVL, kpLL_map, kpL, kpD, eI])
      all_goals first
        | (have hd1 : dgtB c = true := by simp only [dgtB, decide_eq_true_eq]; omega
           rw [if_neg (by rw [hds hd1]; simp), if_pos ⟨hd1, by simpa using ho⟩] at hpg
           refine ⟨(k + 1, it, lv, (c.toNat : Int) - 48, nl, true), StLe.auto (by simp only [sx2, xR, sevalprocAttr] <;> (try simp) <;> (try omega)), ?_, ?_⟩
           · exact ⟨hk2, hpg, by simp only; omega, by simp only; omega, by simp only; omega, by simp only; omega, by simp only; omega⟩
           · simp only; omega
           done)
        | (rw [if_pos ho] at hpg
           refine DrawW.plan Tok mixed (.q 0 <| .q 1 <| .q 2 <| .q 3 <| .q 4 <| .q 5 <| .q 6 <| .q 7 <| .q 8 <| .q 9 <| .q 10 <| .q 13 <| .e 11 [1, 9] <| .e 12 [1] <| .e 14 [] <| .q 15 <| .e 16 [] <| .done) (by kernel_rfl) (by kernel_rfl) ?_
           simp only [↓sx0, xE, sevalprocAttr]
           repeat ((with_reducible refine Vc.go ?_ fun _ => ?_); (focus (first | omega | (simp only [InK]; omega) | (simp [ByteArray.size_extract, InK] <;> omega))); simp only [↓sx0, xE, sevalprocAttr])
           have hmap : (lv ++ [lev]).map eI = lv.map eI ++ [[.v (.int .i64 lev)]] := by simp [eI]
           refine ⟨(k + 1, it ++ X.extract ((k : Int)).toNat ((k : Int) + 1).toNat, lv ++ [lev], 0, nl + 1, false), StLe.auto (by simp only [sx2, xR, sevalprocAttr] <;> (try simp [hmap, encs]) <;> (try omega)), ?_, ?_⟩
           · refine ⟨hk2, hpg, by simp; omega, by simp only; omega, ?_, by simp, by simp⟩
             simp only [ByteArray.size_append, ByteArray.size_extract]; omega
           · simp only; omega
           done)
    · have hke : k = X.data.toList.length := by omega
      rw [hke, List.drop_length, PG] at hpg
      repeat' (first | (with_reducible refine And.intro ?_ ?_) | (with_reducible refine BrW.yes (by omega) ?_) | (with_reducible refine BrW.no (by omega) ?_) | simp only [↓sx0, xE, sevalprocAttr] | ((with_reducible refine Vc.go ?_ fun _ => ?_); (focus (first | omega | (simp only [InK]; omega) | (simp [InK]; omega)))))
      all_goals
        first
        | (skip
           refine DrawW.plan Tok mixed (.q 0 <| .q 1 <| .e 2 [0] <| .e 3 [] <| .q 4 <| .done) (by kernel_rfl) (by kernel_rfl) ?_
           simp only [↓sx0, xE, sevalprocAttr]
           refine CallI.fn (withinB_s (nl : Int) 1 16) (by simp only [sx3, xR, sevalprocAttr] <;> (try simp) <;> (try rfl)) ?_
           simp only [↓sx0, xE, sevalprocAttr]
           refine EndW.p (.tup [.agg [(.v (.string (it))), .sl true 1 ((lv ++ [lev]).map eI)], (.v (.bool (decide ((1 : Int) ≤ (nl : Int) ∧ (nl : Int) ≤ 16))))]) (hQ it _ _ fun h => ?_) (by simp [leV, leL, eI]; done) (by simp only [kpV, kpVL, kpLL_map]; simp [kpL, kpD, eI])
           rw [← hpg]
           simp only [decide_eq_true_eq] at h ⊢
           omega)
        | (skip
           have h46 : (⟨#[46]⟩ : ByteArray).size = 1 := rfl
           refine DrawW.plan Tok mixed (.q 0 <| .q 1 <| .q 2 <| .q 3 <| .q 4 <| .q 5 <| .q 8 <| .e 6 [1, 4] <| .e 7 [1] <| .e 9 [] <| .q 10 <| .e 11 [] <| .done) (by kernel_rfl) (by kernel_rfl) ?_
           simp only [↓sx0, xE, sevalprocAttr]
           repeat ((with_reducible refine Vc.go ?_ fun _ => ?_); (focus (first | omega | (simp only [InK]; omega) | (simp [h46, InK] <;> omega))); simp only [↓sx0, xE, sevalprocAttr])
           refine DrawW.plan Tok mixed (.q 0 <| .q 1 <| .e 2 [0] <| .e 3 [] <| .q 4 <| .done) (by kernel_rfl) (by kernel_rfl) ?_
           simp only [↓sx0, xE, sevalprocAttr]
           refine CallI.fn (withinB_s (nl : Int) 1 16) (by simp only [sx3, xR, sevalprocAttr] <;> (try simp) <;> (try rfl)) ?_
           simp only [↓sx0, xE, sevalprocAttr]
           refine EndW.p (.tup [.agg [(.v (.string (it ++ ⟨#[46]⟩))), .sl true 1 ((lv ++ [lev] ++ [0]).map eI)], (.v (.bool (decide ((1 : Int) ≤ (nl : Int) ∧ (nl : Int) ≤ 16))))]) (hQ _ _ _ fun h => ?_) (by simp [leV, leL, eI]; done) (by simp only [kpV, kpVL, kpLL_map]; simp [kpL, kpD, eI])
           rw [← hpg]
           simp only [decide_eq_true_eq] at h ⊢
           omega)
end Go.Proofs.YtgcmppghjfidfaaGreatDoor
/-
 Chapter 2, walks: patterns are read (the program).
-/
namespace Go.Proofs.YtgcmppghjfidfaaGreatDoor
open Go Go.Vx
set_option maxRecDepth 20000
def preB (s p : ByteArray) : Bool := decide (p.size ≤ s.size) && decide (s.extract 0 p.size = p)
def sufB (s p : ByteArray) : Bool := decide (p.size ≤ s.size) && decide (s.extract (s.size - p.size) s.size = p)
theorem preB_le {s p : ByteArray} (h : preB s p = true) : p.size ≤ s.size := by
 rw [preB, Bool.and_eq_true, decide_eq_true_eq] at h
 exact h.1
theorem hasPreL_s (s p : ByteArray) (hs : s.size ≤ 1000000000) (hp : p.size ≤ 1000000000) : Ctr Tryz.prog 179 [(.v (.string (s))), (.v (.string (p)))] (fun rr => rr = ⟨(.v (.bool (preB s p))), []⟩) := by
 refine Ctr.of (rs := [.tmp 4]) Tok true Tryz.func179 rfl rfl rfl rfl (by simp [ofDL]) (fun w0 kp => ?_)
 simp only [↓sx0, xE, sevalprocAttr]
 refine BrW.dec (fun h => ?_) (fun h => ?_)
 ·simp only [↓sx0, xE, sevalprocAttr]
  repeat ((with_reducible refine Vc.go ?_ fun _ => ?_); (focus (first | omega | (simp only [InK]; omega) | (simp [InK] <;> omega))); simp only [↓sx0, xE, sevalprocAttr])
  have : preB s p = decide (s.extract 0 p.size = p) := by rw [preB, decide_eq_true (show p.size ≤ s.size by omega), Bool.true_and]
  rw [Int.toNat_natCast]
  refine EndW.fn ?_ ?_ <;> simp only [sx4, xK, sevalprocAttr] <;> (try simp [this]) <;> (try omega)
 ·simp only [↓sx0, xE, sevalprocAttr]
  have : preB s p = false := by rw [preB, decide_eq_false (show ¬ p.size ≤ s.size by omega), Bool.false_and]
  refine EndW.fn ?_ ?_ <;> simp only [sx4, xK, sevalprocAttr] <;> (try simp [this]) <;> (try omega)
theorem hasPre_s (s p : ByteArray) (hs : s.size ≤ 1000000000) (hp : p.size ≤ 1000000000) : Ctr Tryz.prog 146 [(.v (.string (s))), (.v (.string (p)))] (fun rr => rr = ⟨(.v (.bool (preB s p))), []⟩) := by
 refine Ctr.of (rs := [.tmp 4]) Tok true Tryz.func146 rfl rfl rfl rfl (by simp [ofDL]) (fun w0 kp => ?_)
 simp only [↓sx0, xE, sevalprocAttr]
 refine CallI.fn (hasPreL_s s p hs hp) (by simp only [sx3, xR, sevalprocAttr] <;> (try simp) <;> (try rfl)) ?_
 simp only [↓sx0, xE, sevalprocAttr]
 refine EndW.fn ?_ ?_ <;> simp only [sx4, xK, sevalprocAttr] <;> (try simp) <;> (try omega)
theorem hasSufL_s (s p : ByteArray) (hs : s.size ≤ 1000000000) (hp : p.size ≤ 1000000000) : Ctr Tryz.prog 116 [(.v (.string (s))), (.v (.string (p)))] (fun rr => rr = ⟨(.v (.bool (sufB s p))), []⟩) := by
 refine Ctr.of (rs := [.tmp 4]) Tok true Tryz.func116 rfl rfl rfl rfl (by simp [ofDL]) (fun w0 kp => ?_)
 simp only [↓sx0, xE, sevalprocAttr]
 refine BrW.dec (fun h => ?_) (fun h => ?_)
 ·simp only [↓sx0, xE, sevalprocAttr]
  repeat ((with_reducible refine Vc.go ?_ fun _ => ?_); (focus (first | omega | (simp only [InK]; omega) | (simp [InK] <;> omega))); simp only [↓sx0, xE, sevalprocAttr])
  have e1 : ((s.size : Int) - (p.size : Int)).toNat = s.size - p.size := by omega
  have : sufB s p = decide (s.extract (s.size - p.size) s.size = p) := by rw [sufB, decide_eq_true (show p.size ≤ s.size by omega), Bool.true_and]
  rw [e1]
  refine EndW.fn ?_ ?_ <;> simp only [sx4, xK, sevalprocAttr] <;> (try simp [this]) <;> (try omega)
 ·simp only [↓sx0, xE, sevalprocAttr]
  have : sufB s p = false := by rw [sufB, decide_eq_false (show ¬ p.size ≤ s.size by omega), Bool.false_and]
  refine EndW.fn ?_ ?_ <;> simp only [sx4, xK, sevalprocAttr] <;> (try simp [this]) <;> (try omega)
theorem dot_size : (⟨#[46]⟩ : ByteArray).size = 1 := rfl
theorem ba_ext {a b : ByteArray} (h : a.data.toList = b.data.toList) : a = b := ByteArray.ext (Array.toList_inj.1 h)
theorem preB_dot (s : ByteArray) : preB s ⟨#[46]⟩ = decide (s.data.toList.head? = some 46) := by
 rw [Bool.eq_iff_iff, preB, Bool.and_eq_true, decide_eq_true_eq, decide_eq_true_eq, decide_eq_true_eq, dot_size]
 have hsl := size_list s
 have he : (s.extract 0 1).data.toList = s.data.toList.take 1 := by rw [ByteArray.data_extract, Array.toList_extract, List.extract_eq_take_drop]; rfl
 constructor
 ·rintro ⟨h1, h2⟩
  rw [h2] at he
  cases hl : s.data.toList with
  | nil => rw [hl] at hsl; simp at hsl; omega
  | cons b r => rw [hl] at he; simp at he; rw [List.head?_cons, he]
 ·intro h
  cases hl : s.data.toList with
  | nil => rw [hl] at h; cases h
  | cons b r =>
   rw [hl] at h he hsl
   simp only [List.head?_cons, Option.some.injEq] at h
   refine ⟨by rw [← hsl]; simp, ba_ext ?_⟩
   rw [he, h]; rfl
theorem sufB_dot (s : ByteArray) : sufB s ⟨#[46]⟩ = decide (s.data.toList.getLast? = some 46) := by
 rw [Bool.eq_iff_iff, sufB, Bool.and_eq_true, decide_eq_true_eq, decide_eq_true_eq, decide_eq_true_eq, dot_size]
 have hsl := size_list s
 have he : (s.extract (s.size - 1) s.size).data.toList = s.data.toList.drop (s.size - 1) := by
  rw [ByteArray.data_extract, Array.toList_extract, List.extract_eq_take_drop]
  exact List.take_of_length_le (by simp)
 rw [List.getLast?_eq_getElem?, hsl]
 constructor
 ·rintro ⟨h1, h2⟩
  rw [h2] at he
  have := congrArg (·[0]?) he
  simp only [List.getElem?_drop, Nat.add_zero] at this
  rw [← this]; rfl
 ·intro h
  have h1 := (List.getElem?_eq_some_iff.1 h).1
  refine ⟨by omega, ba_ext ?_⟩
  rw [he, drop_at h, show s.size - 1 + 1 = s.size by omega, ← hsl, List.drop_length]
def CutP (s : ByteArray) (L : List UInt8) (rr : Ret) : Prop := ∃ (X : ByteArray) (f : Bool), rr = ⟨.tup [(.v (.string (X))), (.v (.bool (f)))], []⟩ ∧ X.data.toList = L
theorem cutPre_s (s : ByteArray) (hs : s.size ≤ 1000000) : Ctr Tryz.prog 178 [(.v (.string (s))), (.v (.string (⟨#[46]⟩)))] (CutP s (tailD s.data.toList)) := by
 have hsl := size_list s
 have hd := dot_size
 refine Ctr.of (rs := [.tmp 4, .tmp 5]) Tok true Tryz.func178 rfl rfl rfl rfl (by simp [ofDL]) (fun w0 kp => ?_)
 simp only [↓sx0, xE, sevalprocAttr]
 refine CallI.inl (rs := [.tmp 4, .tmp 5]) Tok Tryz.func204 rfl rfl rfl rfl (by simp) (fun ρ σ μ fr lp => ?_)
 simp only [↓sx0, xE, sevalprocAttr]
 refine CallI.fn (hasPreL_s s ⟨#[46]⟩ (by omega) (by omega)) (by simp only [sx3, xR, sevalprocAttr] <;> (try simp) <;> (try rfl)) ?_
 simp only [↓sx0, xE, sevalprocAttr]
 refine BrW.of (fun hb => ?_) (fun hb => ?_)
 ·simp only [↓sx0, xE, sevalprocAttr]
  have h1 := preB_le hb
  repeat ((with_reducible refine Vc.go ?_ fun _ => ?_); (focus (first | omega | (simp only [InK]; omega) | (simp [hd, InK] <;> omega))); simp only [↓sx0, xE, sevalprocAttr])
  rw [preB_dot, decide_eq_true_eq] at hb
  refine EndW.p (.tup [(.v (.string (s.extract 1 s.size))), (.v (.bool (true)))]) ⟨_, _, rfl, ?_⟩ (by simp [leV, leL, hd]) (by simp [kpV, kpVL])
  rw [tailD, if_pos hb, ByteArray.data_extract, Array.toList_extract, ← hsl, List.extract_eq_take_drop, List.drop_one]
  exact List.take_of_length_le (by simp)
 ·simp only [↓sx0, xE, sevalprocAttr]
  rw [preB_dot, decide_eq_false_iff_not] at hb
  exact EndW.p (.tup [(.v (.string (s))), (.v (.bool (false)))]) ⟨_, _, rfl, by rw [tailD, if_neg hb]⟩ (by simp [leV, leL]) (by simp [kpV, kpVL])
theorem cutSuf_s (s : ByteArray) (hs : s.size ≤ 1000000) : Ctr Tryz.prog 46 [(.v (.string (s))), (.v (.string (⟨#[46]⟩)))] (CutP s (initD s.data.toList)) := by
 have hsl := size_list s
 have hd := dot_size
 refine Ctr.of (rs := [.tmp 4, .tmp 5]) Tok true Tryz.func46 rfl rfl rfl rfl (by simp [ofDL]) (fun w0 kp => ?_)
 simp only [↓sx0, xE, sevalprocAttr]
 refine CallI.inl (rs := [.tmp 4, .tmp 5]) Tok Tryz.func77 rfl rfl rfl rfl (by simp) (fun ρ σ μ fr lp => ?_)
 simp only [↓sx0, xE, sevalprocAttr]
 refine CallI.fn (hasSufL_s s ⟨#[46]⟩ (by omega) (by omega)) (by simp only [sx3, xR, sevalprocAttr] <;> (try simp) <;> (try rfl)) ?_
 simp only [↓sx0, xE, sevalprocAttr]
 refine BrW.of (fun hb => ?_) (fun hb => ?_)
 ·simp only [↓sx0, xE, sevalprocAttr]
  rw [sufB_dot, decide_eq_true_eq] at hb
  have h1 : 1 ≤ s.size := by
   rw [List.getLast?_eq_getElem?] at hb
   have := (List.getElem?_eq_some_iff.1 hb).1
   omega
  repeat ((with_reducible refine Vc.go ?_ fun _ => ?_); (focus (first | omega | (simp only [InK]; omega) | (simp [hd, InK] <;> omega))); simp only [↓sx0, xE, sevalprocAttr])
  refine EndW.p (.tup [(.v (.string (s.extract 0 (s.size - 1)))), (.v (.bool (true)))]) ⟨_, _, rfl, ?_⟩ ?_ (by simp [kpV, kpVL])
  ·rw [initD, if_pos hb, ByteArray.data_extract, Array.toList_extract, ← hsl, List.extract_eq_take_drop, List.drop_zero, Nat.sub_zero, List.dropLast_eq_take]
  ·have : ((s.size : Int) - 1).toNat = s.size - 1 := by omega
   simp [leV, leL, hd, this]
 ·simp only [↓sx0, xE, sevalprocAttr]
  rw [sufB_dot, decide_eq_false_iff_not] at hb
  exact EndW.p (.tup [(.v (.string (s))), (.v (.bool (false)))]) ⟨_, _, rfl, by rw [initD, if_neg hb]⟩ (by simp [leV, leL]) (by simp [kpV, kpVL])
theorem isSmallT_s (c : UInt8) : Ctr Tryz.prog 171 [.v (.int .u8 (c.toNat : Int))] (fun rr => rr = ⟨(.v (.bool (smB c))), []⟩) := by
 refine Ctr.of (rs := [.tmp 2]) Tok true Tryz.func171 rfl rfl rfl rfl (by simp [ofDL]) (fun w0 kp => ?_)
 simp only [↓sx0, xE, sevalprocAttr]
 refine BrW.dec (fun h => ?_) (fun h => ?_)
 ·simp only [↓sx0, xE, sevalprocAttr]
  have : smB c = decide ((c.toNat : Int) ≤ 122) := by unfold smB; rw [decide_eq_decide]; omega
  refine EndW.fn ?_ ?_ <;> simp only [sx4, xK, sevalprocAttr] <;> (try simp [this]) <;> (try omega)
 ·simp only [↓sx0, xE, sevalprocAttr]
  have : smB c = false := by unfold smB; rw [decide_eq_false_iff_not]; omega
  refine EndW.fn ?_ ?_ <;> simp only [sx4, xK, sevalprocAttr] <;> (try simp [this]) <;> (try omega)
end Go.Proofs.YtgcmppghjfidfaaGreatDoor
/-
 Chapter 2, walks: words with separators, and words of small letters (the program).
-/
namespace Go.Proofs.YtgcmppghjfidfaaGreatDoor
open Go Go.Vx Go.Shelf Go.RowKit Go.Sort
set_option maxRecDepth 20000
def laysSplitR : Ren := ⟨fun | 146 => 78 | 221 => 117 | 268 => 156 | 138 => 157 | 143 => 118 | 195 => 188 | 197 => 189 | 218 => 190 | 219 => 158 | 260 => 220 | 217 => 115 | 225 => 191 | 224 => 192 | 267 => 193 | 266 => 155 | 314 => 221 | n => n, fun | 9 => 9 | 31 => 51 | 3 => 3 | 4 => 4 | 0 => 0 | 105 => 245 | 21 => 21 | 5 => 5 | 46 => 237 | 119 => 284 | 139 => 287 | 138 => 286 | 146 => 269 | 51 => 265 | n => n, fun | 1 => 0 | 3 => 4 | 4 => 5 | n => n⟩
set_option maxRecDepth 100000 in
theorem laysSplit : Lays.n146 Tryz.prog laysSplitR := { mixed := rfl, f138 := Tryz.func157, f143 := Tryz.func118, f146 := Tryz.func78, f195 := Tryz.func188, f197 := Tryz.func189, f217 := Tryz.func115, f218 := Tryz.func190, f219 := Tryz.func158, f221 := Tryz.func117, f224 := Tryz.func192, f225 := Tryz.func191, f260 := Tryz.func220, f266 := Tryz.func155, f267 := Tryz.func193, f268 := Tryz.func156, f314 := Tryz.func221, t0 := Tryz.underlying0, a0 := Tryz.isAgg0, z0 := Tryz.sizeOf0, v0 := Tryz.zeroValue0, t3 := Tryz.underlying3, a3 := Tryz.isAgg3, z3 := Tryz.sizeOf3, v3 := Tryz.zeroValue3, t4 := Tryz.underlying4, a4 := Tryz.isAgg4, z4 := Tryz.sizeOf4, v4 := Tryz.zeroValue4, t5 := Tryz.underlying5, a5 := Tryz.isAgg5, z5 := Tryz.sizeOf5, v5 := Tryz.zeroValue5, t9 := Tryz.underlying9, a9 := Tryz.isAgg9, z9 := Tryz.sizeOf9, v9 := Tryz.zeroValue9, t21 := Tryz.underlying21, a21 := Tryz.isAgg21, z21 := Tryz.sizeOf21, v21 := Tryz.zeroValue21, t31 := Tryz.underlying51, a31 := Tryz.isAgg51, z31 := Tryz.sizeOf51, v31 := Tryz.zeroValue51, t46 := Tryz.underlying237, a46 := Tryz.isAgg237, z46 := Tryz.sizeOf237, v46 := Tryz.zeroValue237, t51 := Tryz.underlying265, a51 := Tryz.isAgg265, z51 := Tryz.sizeOf265, v51 := Tryz.zeroValue265, t105 := Tryz.underlying245, a105 := Tryz.isAgg245, z105 := Tryz.sizeOf245, v105 := Tryz.zeroValue245, t119 := Tryz.underlying284, a119 := Tryz.isAgg284, z119 := Tryz.sizeOf284, t138 := Tryz.underlying286, a138 := Tryz.isAgg286, z138 := Tryz.sizeOf286, v138 := Tryz.zeroValue286, t139 := Tryz.underlying287, a139 := Tryz.isAgg287, z139 := Tryz.sizeOf287, v139 := Tryz.zeroValue287, t146 := Tryz.underlying269, a146 := Tryz.isAgg269, z146 := Tryz.sizeOf269, v146 := Tryz.zeroValue269, g1 := by kernel_rfl, g3 := by kernel_rfl, g4 := by kernel_rfl }
/-- what the package variables hold that the library's functions look at. -/
def glob (w : World) : Prop := ∃ m, w.cell? ⟨0, 0, none⟩ = some (.int .i64 m)
theorem cell_up {w w' : World} (hb : ∀ b, b < w.heap.size → w'.heap[b]? = w.heap[b]?) {a : Addr} {v : Value} (h : w.cell? a = some v) : w'.cell? a = some v := by
 unfold World.cell? at h ⊢
 cases hh : w.heap[a.block]? with
 | none => rw [hh] at h; cases h
 | some o =>
  rw [hb _ (Array.getElem?_eq_some_iff.1 hh).1]
  exact h
theorem glob_ok : GlOk glob := fun w w' hs hb ⟨m, h⟩ => ⟨m, cell_up hb h⟩
theorem split_s (s : ByteArray) (c : UInt8) (hs : s.size < 4294967281) : CtrK glob Tryz.prog 78 [(.v (.string (s))), (.v (.string (⟨#[c]⟩)))] (fun rr => rr = ⟨.row 0, [.own 9 1 ((Lib.splitB ⟨#[c]⟩ 0 (Lib.countB s ⟨#[c]⟩) s).map fun x => [.v (.string x)])]⟩) :=
 CtrK.strs (xs := [.string s, .string ⟨#[c]⟩]) Tryz.func78 rfl rfl fun w hg => by
  obtain ⟨m, hm⟩ := hg
  have hlen := Lib.splitB_all ⟨#[c]⟩ (Nat.le_refl 1) 0 _ s rfl
  have hsz := Lib.countB_le ⟨#[c]⟩ (Nat.le_refl 1) s.size s (Nat.le_refl _)
  refine (Any.strings_Split laysSplit (by kernel_rfl) s ⟨#[c]⟩ m w hs hm (Nat.le_refl 1)).mono fun e w' ⟨he, hw⟩ => ⟨_, he, ?_, ?_⟩
  ·rw [hw]; exact Below.alloc (Below.refl _ _) (Nat.le_refl _) _
  ·generalize Lib.splitB ⟨#[c]⟩ 0 (Lib.countB s ⟨#[c]⟩) s = l at hlen hw ⊢
   rw [hw]
   refine ⟨by simp, .inr ⟨w.heap.size, _, (l.map Value.string).toArray, by rw [hlen], Nat.le_refl _, heap_alloc_new w _, by omega, by simp only [maxLen]; omega, by simp; omega, by simp [List.take_of_length_le]⟩⟩
def plF : Nat → List (List UInt8) → List Int
 | _, [] => []
 | n, p :: l => (n : Int) :: plF (n + p.length) l
theorem plF_len : ∀ (l : List (List UInt8)) (n : Nat), (plF n l).length = l.length
 | [], _ => rfl
 | p :: l, n => by rw [plF, List.length_cons, plF_len l, List.length_cons]
theorem plF_get : ∀ (l : List (List UInt8)) (n k : Nat), k < l.length → (plF n l)[k]? = some ((n : Int) + ((l.take k).flatten.length : Nat))
 | [], _, k, h => by simp at h
 | p :: l, n, 0, _ => by simp [plF]
 | p :: l, n, k + 1, h => by
  rw [plF, List.getElem?_cons_succ, plF_get l _ k (by simpa using h), List.take_succ_cons, List.flatten_cons, List.length_append]
  congr 1
  omega
theorem cutL_flat (c : UInt8) : ∀ (l acc : List UInt8), (cutL c acc l).flatten = acc ++ mkL c l
 | [], acc => by simp [cutL, mkL]
 | b :: l, acc => by
  rw [cutL]
  by_cases hb : b = c
  ·rw [if_pos hb, List.flatten_cons, cutL_flat c l []]
   simp [mkL, hb]
  ·rw [if_neg hb, cutL_flat c l]
   simp [mkL, hb]
theorem cutL_ne (c : UInt8) : ∀ (l acc : List UInt8), NA c l (!acc.isEmpty) = true → ∀ x ∈ cutL c acc l, x ≠ []
 | [], acc, h, x, hx => by
  rw [cutL, List.mem_singleton] at hx
  rw [NA] at h
  subst hx
  intro e; subst e; simp at h
 | b :: l, acc, h, x, hx => by
  rw [NA] at h
  rw [cutL] at hx
  by_cases hb : b = c
  ·rw [if_pos hb, Bool.and_eq_true] at h
   rw [if_pos hb] at hx
   rcases List.mem_cons.1 hx with rfl | hx
   ·intro e; rw [e] at h; simp at h
   ·exact cutL_ne c l [] h.2 x hx
  ·rw [if_neg hb] at h hx
   exact cutL_ne c l (acc ++ [b]) (by rw [show (!(acc ++ [b]).isEmpty) = true by simp]; exact h) x hx
def mkWd (c : UInt8) (s : ByteArray) : ByteArray := ⟨(mkL c s.data.toList).toArray⟩
def mkPs (c : UInt8) (s : ByteArray) : List Int := (plF 0 (cutL c [] s.data.toList)).tail
theorem tail_take {α : Type} {l : List α} {k : Nat} {a : α} (h : l[k]? = some a) : (l.take (k + 1)).tail = if k = 0 then [] else (l.take k).tail ++ [a] := by
 rw [List.take_add_one, h]
 cases k with
 | zero => simp
 | succ k =>
  rw [if_neg (by omega)]
  cases l with
  | nil => simp at h
  | cons x l => simp
set_option maxHeartbeats 8000000 in
theorem parted_s (s : ByteArray) (c : UInt8) (hs : s.size ≤ 1000000) (hna : NA c s.data.toList false = true) : CtrK glob Tryz.prog 144 [(.v (.string (s))), (.v (.string (⟨#[c]⟩)))] (fun rr => rr = ⟨.tup [(.v (.string (mkWd c s))), .sl true 1 ((mkPs c s).map eI), (.v (.bool (true)))], []⟩) := by
 have hsl := size_list s
 have hcut := split_cut c s
 have hne := cutL_ne c s.data.toList [] hna
 have hfl := cutL_flat c s.data.toList []
 have hln := cutL_len c s.data.toList []
 have hcl : s.data.toList.count c ≤ s.data.toList.length := List.count_le_length
 have hsp := split_s s c (by omega)
 generalize Lib.splitB ⟨#[c]⟩ 0 (Lib.countB s ⟨#[c]⟩) s = B at hcut hsp
 have hBl : B.length ≤ 1000001 := by
  have := congrArg List.length hcut
  rw [List.length_map, hln] at this
  omega
 refine CtrK.of (rs := [.tmp 4, .tmp 5, .tmp 6]) Tok true Tryz.func144 rfl rfl rfl rfl (by simp [ofDL]) (fun w0 kp hgl => ?_)
 simp only [↓sx0, xE, sevalprocAttr]
 refine CallI.ctrK (hsp) glob_ok hgl rfl (by simp only [sx3, xR, sevalprocAttr] <;> (try simp) <;> (try rfl)) ?_
 rintro _ rfl
 simp only [↓sx0, xE, sevalprocAttr]
 generalize hP : cutL c [] s.data.toList = P at hcut hne hfl hln
 have hBP : B.length = P.length := by rw [← hcut, List.length_map]
 have hget : ∀ k (h : k < B.length), P[k]? = some B[k].data.toList := fun k h => by
  rw [← hcut, List.getElem?_map, List.getElem?_eq_getElem h]; rfl
 have htot : ∀ k, (P.take k).flatten.length ≤ s.size := fun k => by
  have h1 : (P.take k).flatten.length ≤ P.flatten.length := by
   conv => rhs; rw [← List.take_append_drop k P, List.flatten_append, List.length_append]
   omega
  have h2 : (mkL c s.data.toList).length ≤ s.data.toList.length := List.length_filter_le _ _
  rw [hfl] at h1
  simp only [List.nil_append] at h1
  omega
 refine LoopW.comp [8, 9, 15, 16, 17] (by simp only [sx2, xR, sevalprocAttr] <;> (try simp) <;> (try omega)) ?_
 simp only [sx2, sxR, sevalprocAttr]
 refine LoopW.up Tok (fun x : Nat × ByteArray × List Int => [(8, (.v (.string (x.2.1)))), (9, .row 1), (17, (.v (.int .i64 ((x.1 : Int)))))]) (fun x => []) (fun x => [(0, B.map eS)]) (fun x => [.own 3 1 (x.2.2.map eI)]) (fun x => x.1 ≤ B.length ∧ x.2.1.data.toList = (P.take x.1).flatten ∧ x.2.2 = ((plF 0 P).take x.1).tail) (fun x => B.length - x.1) ((0, ⟨#[]⟩, [])) (by simp only [sx2, xR, sevalprocAttr] <;> (try simp [eS, encs]) <;> (try omega)) ?_ ?_
 ·exact ⟨Nat.zero_le _, by simp, by simp⟩
 rintro ⟨k, w, ps⟩ ⟨hk, hw, hps⟩
 simp only at hk hw hps
 have hwl : w.size = (P.take k).flatten.length := by rw [← hw, size_list]
 have hpl : ps.length ≤ k := by rw [hps]; simp; omega
 have htk := htot k
 simp only [↓sx0, xE, sevalprocAttr]
 by_cases hk2 : k < B.length
 ·have hPk := hget k hk2
  have hne2 : ¬ B[k] = ⟨#[]⟩ := fun e => hne _ (List.mem_of_getElem? hPk) (by rw [e])
  have hplk := plF_get P 0 k (by omega)
  rw [← hwl] at hplk
  have htk1 := htot (k + 1)
  rw [List.take_add_one, hPk] at htk1
  simp only [Option.toList_some, List.flatten_append, List.length_append, List.flatten_cons, List.flatten_nil, List.append_nil] at htk1
  rw [size_list] at htk1
  refine BrW.yes (by omega) ?_
  simp only [↓sx0, xE, sevalprocAttr]
  (with_reducible refine Vc.go ?_ fun _ => ?_); focus (first | omega | (simp only [InK]; omega) | (simp [InK] <;> omega))
  simp only [↓sx0, xE, sevalprocAttr]
  refine IxW.nat hk2 ?_
  simp only [↓sx0, xE, sevalprocAttr]
  refine BrW.no hne2 ?_
  simp only [↓sx0, xE, sevalprocAttr]
  by_cases h0 : k = 0
  ·refine BrW.no (by omega) ?_
   simp only [↓sx0, xE, sevalprocAttr]
   repeat ((with_reducible refine Vc.go ?_ fun _ => ?_); (focus (first | omega | (simp only [InK]; omega) | (simp [InK] <;> omega))); simp only [↓sx0, xE, sevalprocAttr])
   refine ⟨(k + 1, w ++ B[k], ps), StLe.auto (by simp only [sx2, xR, sevalprocAttr] <;> (try simp) <;> (try omega)), ?_, ?_⟩
   ·refine ⟨by simp only; omega, ?_, ?_⟩
    ·simp only
     rw [ByteArray.toList_data_append, hw, List.take_add_one, hPk]; simp
    ·simp only
     rw [tail_take hplk, if_pos h0, hps, h0]; rfl
   ·simp only; omega
  ·refine BrW.yes (by omega) ?_
   simp only [↓sx0, xE, sevalprocAttr]
   repeat ((with_reducible refine Vc.go ?_ fun _ => ?_); (focus (first | omega | (simp only [InK]; omega) | (simp [InK] <;> omega))); simp only [↓sx0, xE, sevalprocAttr])
   have hmap : (ps ++ [(w.size : Int)]).map eI = ps.map eI ++ [[.v (.int .i64 (w.size : Int))]] := by simp [eI]
   refine ⟨(k + 1, w ++ B[k], ps ++ [(w.size : Int)]), StLe.auto (by simp only [sx2, xR, sevalprocAttr] <;> (try simp [hmap, encs]) <;> (try omega)), ?_, ?_⟩
   ·refine ⟨by simp only; omega, ?_, ?_⟩
    ·simp only
     rw [ByteArray.toList_data_append, hw, List.take_add_one, hPk]; simp
    ·simp only
     rw [tail_take hplk, if_neg h0, hps]; simp
   ·simp only; omega
 ·have hke : k = B.length := by omega
  have h1 : w = mkWd c s := by
   refine ba_ext ?_
   rw [hw, hke, hBP, List.take_length, hfl]; simp [mkWd]
  have h2 : ps = mkPs c s := by
   rw [hps, hke, hBP, mkPs, hP, ← plF_len P 0, List.take_length]
  subst h1 h2
  refine BrW.no (by omega) ?_
  simp only [↓sx0, xE, sevalprocAttr]
  refine EndW.fn ?_ ?_ <;> simp only [sx4, xK, sevalprocAttr] <;> (try simp) <;> (try omega)
theorem small_by {w : ByteArray} (h : ∀ b ∈ w.data.toList, smB b = true) (k : Nat) (hk : k < w.size) : ∃ b, w.data.toList[k]? = some b ∧ smB b = true := by
 have hl := size_list w
 exact ⟨_, List.getElem?_eq_getElem (by omega), h _ (List.getElem_mem _)⟩
theorem isSmallWord_s (w : ByteArray) (h : ∀ b ∈ w.data.toList, smB b = true) (hz : 1 ≤ w.size ∧ w.size ≤ 30) : Ctr Tryz.prog 138 [(.v (.string (w)))] (fun rr => rr = ⟨(.v (.bool (true))), []⟩) := by
 have hW := withinT_s (w.size : Int) 1 30
 rw [decide_eq_true (by omega)] at hW
 refine Ctr.of (rs := [.tmp 2]) Tok true Tryz.func138 rfl rfl rfl rfl (by simp [ofDL]) (fun w0 kp => ?_)
 simp only [↓sx0, xE, sevalprocAttr]
 refine LoopW.comp [0, 5, 6] (by simp only [sx2, xR, sevalprocAttr] <;> (try simp) <;> (try omega)) ?_
 simp only [sx2, sxR, sevalprocAttr]
 refine LoopW.up Tok (fun k : Nat => [(6, (.v (.int .i64 ((k : Int)))))]) (fun k => []) (fun k => []) (fun k => []) (fun k => k ≤ w.size) (fun k => w.size - k) (0) (by simp only [sx2, xR, sevalprocAttr] <;> (try simp) <;> (try omega)) ?_ ?_
 ·exact Nat.zero_le _
 rintro k hk
 simp only [↓sx0, xE, sevalprocAttr]
 by_cases hk2 : k < w.size
 ·obtain ⟨b, hb, hs⟩ := small_by h k hk2
  have hS := isSmallT_s b
  rw [hs] at hS
  refine BrW.yes (by omega) ?_
  simp only [↓sx0, xE, sevalprocAttr]
  refine StrIx.is hb ?_
  simp only [↓sx0, xE, sevalprocAttr]
  refine CallI.fn (hS) (by simp only [sx3, xR, sevalprocAttr] <;> (try simp) <;> (try rfl)) ?_
  simp only [↓sx0, xE, sevalprocAttr]
  repeat' (first | (with_reducible refine BrW.yes (by omega) ?_) | (with_reducible refine BrW.no (by omega) ?_) | (with_reducible refine BrW.dec (fun _ => ?_) (fun _ => ?_)) | (with_reducible refine BrW.of (fun _ => ?_) (fun _ => ?_)) | ((with_reducible refine Vc.go ?_ fun _ => ?_); (focus (first | omega | (simp only [InK]; omega) | (simp [InK] <;> omega)))) | simp only [↓sx0, xE, sevalprocAttr])
  refine ⟨k + 1, StLe.auto (by simp only [sx2, xR, sevalprocAttr] <;> (try simp) <;> (try omega)), ?_, ?_⟩
  ·omega
  ·omega
 ·refine BrW.no (by omega) ?_
  simp only [↓sx0, xE, sevalprocAttr]
  refine CallI.fn (hW) (by simp only [sx3, xR, sevalprocAttr] <;> (try simp) <;> (try rfl)) ?_
  simp only [↓sx0, xE, sevalprocAttr]
  refine EndW.fn ?_ ?_ <;> simp only [sx4, xK, sevalprocAttr] <;> (try simp) <;> (try omega)
def AnyBool (rr : Ret) : Prop := ∃ e : Bool, rr = ⟨(.v (.bool (e))), []⟩
theorem isSmallWordX_s (w : ByteArray) (hz : w.size ≤ 1000000) : Ctr Tryz.prog 138 [(.v (.string (w)))] AnyBool := by
 refine Ctr.of (rs := [.tmp 2]) Tok true Tryz.func138 rfl rfl rfl rfl (by simp [ofDL]) (fun w0 kp => ?_)
 simp only [↓sx0, xE, sevalprocAttr]
 refine LoopW.comp [0, 5, 6] (by simp only [sx2, xR, sevalprocAttr] <;> (try simp) <;> (try omega)) ?_
 simp only [sx2, sxR, sevalprocAttr]
 refine LoopW.up Tok (fun k : Nat => [(6, (.v (.int .i64 ((k : Int)))))]) (fun k => []) (fun k => []) (fun k => []) (fun k => k ≤ w.size) (fun k => w.size - k) (0) (by simp only [sx2, xR, sevalprocAttr] <;> (try simp) <;> (try omega)) ?_ ?_
 ·exact Nat.zero_le _
 rintro k hk
 simp only [↓sx0, xE, sevalprocAttr]
 by_cases hk2 : k < w.size
 ·refine BrW.yes (by omega) ?_
  simp only [↓sx0, xE, sevalprocAttr]
  refine StrIx.gen (by omega) (fun b hb => ?_)
  simp only [↓sx0, xE, sevalprocAttr]
  refine CallI.fn (isSmallT_s b) (by simp only [sx3, xR, sevalprocAttr] <;> (try simp) <;> (try rfl)) ?_
  simp only [↓sx0, xE, sevalprocAttr]
  refine BrW.of (fun hb2 => ?_) (fun hb2 => ?_)
  ·repeat' (first | (with_reducible refine BrW.yes (by omega) ?_) | (with_reducible refine BrW.no (by omega) ?_) | (with_reducible refine BrW.dec (fun _ => ?_) (fun _ => ?_)) | (with_reducible refine BrW.of (fun _ => ?_) (fun _ => ?_)) | ((with_reducible refine Vc.go ?_ fun _ => ?_); (focus (first | omega | (simp only [InK]; omega) | (simp [InK] <;> omega)))) | simp only [↓sx0, xE, sevalprocAttr])
   refine ⟨k + 1, StLe.auto (by simp only [sx2, xR, sevalprocAttr] <;> (try simp) <;> (try omega)), ?_, ?_⟩
   ·omega
   ·omega
  ·repeat' (first | (with_reducible refine BrW.yes (by omega) ?_) | (with_reducible refine BrW.no (by omega) ?_) | (with_reducible refine BrW.dec (fun _ => ?_) (fun _ => ?_)) | (with_reducible refine BrW.of (fun _ => ?_) (fun _ => ?_)) | ((with_reducible refine Vc.go ?_ fun _ => ?_); (focus (first | omega | (simp only [InK]; omega) | (simp [InK] <;> omega)))) | simp only [↓sx0, xE, sevalprocAttr])
   exact EndB ⟨_, rfl⟩
 ·refine BrW.no (by omega) ?_
  simp only [↓sx0, xE, sevalprocAttr]
  refine CallI.fn (withinT_s (w.size : Int) 1 30) (by simp only [sx3, xR, sevalprocAttr] <;> (try simp) <;> (try rfl)) ?_
  simp only [↓sx0, xE, sevalprocAttr]
  exact EndB ⟨_, rfl⟩
theorem right1_s (w : ByteArray) (ps : List Int) (h : ∀ b ∈ w.data.toList, smB b = true) (hz : 1 ≤ w.size ∧ w.size ≤ 30) : Ctr Tryz.prog 142 [(.v (.string (w))), .sl true 1 (ps.map eI)] (fun rr => rr = ⟨(.v (.bool (true))), []⟩) := by
 refine Ctr.of (rs := [.tmp 4]) Tok true Tryz.func142 rfl rfl rfl rfl (by simp [ofDL]) (fun w0 kp => ?_)
 simp only [↓sx0, xE, sevalprocAttr]
 refine CallI.fn (isSmallWord_s w h hz) (by simp only [sx3, xR, sevalprocAttr] <;> (try simp) <;> (try rfl)) ?_
 simp only [↓sx0, xE, sevalprocAttr]
 refine EndW.fn ?_ ?_ <;> simp only [sx4, xK, sevalprocAttr] <;> (try simp) <;> (try omega)
theorem right2_s (w : ByteArray) (ps : List Int) (h : isWd w = true) (hz : 1 ≤ ps.length) : Ctr Tryz.prog 143 [(.v (.string (w))), .sl true 1 (ps.map eI)] (fun rr => rr = ⟨(.v (.bool (true))), []⟩) := by
 have hW := isWordT_s w
 rw [h] at hW
 refine Ctr.of (rs := [.tmp 4]) Tok true Tryz.func143 rfl rfl rfl rfl (by simp [ofDL]) (fun w0 kp => ?_)
 simp only [↓sx0, xE, sevalprocAttr]
 refine CallI.fn (hW) (by simp only [sx3, xR, sevalprocAttr] <;> (try simp) <;> (try rfl)) ?_
 simp only [↓sx0, xE, sevalprocAttr]
 have : decide (0 < (ps.length : Int)) = true := decide_eq_true (by omega)
 rw [this]
 refine EndW.fn ?_ ?_ <;> simp only [sx4, xK, sevalprocAttr] <;> (try simp) <;> (try omega)
end Go.Proofs.YtgcmppghjfidfaaGreatDoor
