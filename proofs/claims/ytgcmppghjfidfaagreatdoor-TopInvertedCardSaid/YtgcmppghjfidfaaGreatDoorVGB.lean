/-
 Chapter 8, walks: small ones, words.
-/
import Derived.Test.YtgcmppghjfidfaaGreatDoorVB8
import Derived.Test.YtgcmppghjfidfaaGreatDoorVPure
import Derived.Shelf.Strings.FuncGrows
import Derived.Laws.RangeString
import Derived.Test.YtgcmppghjfidfaaGreatDoorVIns
set_option linter.unusedSimpArgs false
set_option linter.unusedVariables false
namespace Go.Proofs.YtgcmppghjfidfaaGreatDoor
open Go Go.Vx
set_option maxRecDepth 20000
theorem within_s (n lo hi : Int) : Ctr Tryz.prog 72 [(.v (.int .i64 n)), (.v (.int .i64 lo)), (.v (.int .i64 hi))] (fun rr => rr = ⟨(.v (.bool (decide (lo ≤ n ∧ n ≤ hi)))), []⟩) := by
 refine Ctr.of (rs := [.tmp 6]) Tok true Tryz.func72 rfl rfl rfl rfl (by simp [ofDL]) (fun w0 kp => ?_)
 simp only [↓sx0, xE, sevalprocAttr]
 refine BrW.dec (fun h => ?_) (fun h => ?_)
 ·simp only [↓sx0, xE, sevalprocAttr]
  refine EndW.fn ?_ ?_ <;> simp only [sx4, xK, sevalprocAttr] <;> (try simp [h]) <;> (try omega)
 ·simp only [↓sx0, xE, sevalprocAttr]
  refine EndW.fn ?_ ?_ <;> simp only [sx4, xK, sevalprocAttr] <;> (try simp [h]) <;> (try omega)
theorem withinT_s (n lo hi : Int) : Ctr Tryz.prog 126 [(.v (.int .i64 n)), (.v (.int .i64 lo)), (.v (.int .i64 hi))] (fun rr => rr = ⟨(.v (.bool (decide (lo ≤ n ∧ n ≤ hi)))), []⟩) := by
 refine Ctr.of (rs := [.tmp 6]) Tok true Tryz.func126 rfl rfl rfl rfl (by simp [ofDL]) (fun w0 kp => ?_)
 simp only [↓sx0, xE, sevalprocAttr]
 refine BrW.dec (fun h => ?_) (fun h => ?_)
 ·simp only [↓sx0, xE, sevalprocAttr]
  refine EndW.fn ?_ ?_ <;> simp only [sx4, xK, sevalprocAttr] <;> (try simp [h]) <;> (try omega)
 ·simp only [↓sx0, xE, sevalprocAttr]
  refine EndW.fn ?_ ?_ <;> simp only [sx4, xK, sevalprocAttr] <;> (try simp [h]) <;> (try omega)
theorem withinB_s (n lo hi : Int) : Ctr Tryz.prog 16 [(.v (.int .i64 n)), (.v (.int .i64 lo)), (.v (.int .i64 hi))] (fun rr => rr = ⟨(.v (.bool (decide (lo ≤ n ∧ n ≤ hi)))), []⟩) := by
 refine Ctr.of (rs := [.tmp 6]) Tok true Tryz.func16 rfl rfl rfl rfl (by simp [ofDL]) (fun w0 kp => ?_)
 simp only [↓sx0, xE, sevalprocAttr]
 refine BrW.dec (fun h => ?_) (fun h => ?_)
 ·simp only [↓sx0, xE, sevalprocAttr]
  refine EndW.fn ?_ ?_ <;> simp only [sx4, xK, sevalprocAttr] <;> (try simp [h]) <;> (try omega)
 ·simp only [↓sx0, xE, sevalprocAttr]
  refine EndW.fn ?_ ?_ <;> simp only [sx4, xK, sevalprocAttr] <;> (try simp [h]) <;> (try omega)
theorem isKind_s (n : Int) : Ctr Tryz.prog 153 [(.v (.int .i64 n))] (fun rr => rr = ⟨(.v (.bool (decide (1 ≤ n ∧ n ≤ 3)))), []⟩) := by
 refine Ctr.of (rs := [.tmp 2]) Tok true Tryz.func153 rfl rfl rfl rfl (by simp [ofDL]) (fun w0 kp => ?_)
 simp only [↓sx0, xE, sevalprocAttr]
 refine CallI.fn (within_s n 1 3) (by simp only [sx3, xR, sevalprocAttr] <;> (try simp) <;> (try rfl)) ?_
 simp only [↓sx0, xE, sevalprocAttr]
 refine EndW.fn ?_ ?_ <;> simp only [sx4, xK, sevalprocAttr] <;> (try simp) <;> (try omega)
theorem isKindR_s (n : Int) : Ctr Tryz.prog 104 [(.v (.int .i64 n))] (fun rr => rr = ⟨(.v (.bool (decide (1 ≤ n ∧ n ≤ 3)))), []⟩) := by
 refine Ctr.of (rs := [.tmp 2]) Tok true Tryz.func104 rfl rfl rfl rfl (by simp [ofDL]) (fun w0 kp => ?_)
 simp only [↓sx0, xE, sevalprocAttr]
 refine CallI.fn (withinB_s n 1 3) (by simp only [sx3, xR, sevalprocAttr] <;> (try simp) <;> (try rfl)) ?_
 simp only [↓sx0, xE, sevalprocAttr]
 refine EndW.fn ?_ ?_ <;> simp only [sx4, xK, sevalprocAttr] <;> (try simp) <;> (try omega)
theorem isMark_s (s : ByteArray) : Ctr Tryz.prog 129 [(.v (.string (s)))] (fun rr => rr = ⟨(.v (.bool (isMk s))), []⟩) := by
 refine Ctr.of (rs := [.tmp 2]) Tok true Tryz.func129 rfl rfl rfl rfl (by simp [ofDL]) (fun w0 kp => ?_)
 simp only [↓sx0, xE, sevalprocAttr]
 refine BrW.dec (fun h => ?_) (fun h => ?_)
 ·simp only [↓sx0, xE, sevalprocAttr]
  have : isMk s = true := by unfold isMk; rw [decide_eq_true (show s = hash from h)]; rfl
  refine EndW.fn ?_ ?_ <;> simp only [sx4, xK, sevalprocAttr] <;> (try simp [this]) <;> (try omega)
 ·simp only [↓sx0, xE, sevalprocAttr]
  have : isMk s = decide (s = ⟨#[94]⟩) := by unfold isMk; rw [decide_eq_false (show ¬ s = hash from h)]; rfl
  refine EndW.fn ?_ ?_ <;> simp only [sx4, xK, sevalprocAttr] <;> (try simp [this]) <;> (try omega)
theorem isMarkR_s (s : ByteArray) : Ctr Tryz.prog 40 [(.v (.string (s)))] (fun rr => rr = ⟨(.v (.bool (isMk s))), []⟩) := by
 refine Ctr.of (rs := [.tmp 2]) Tok true Tryz.func40 rfl rfl rfl rfl (by simp [ofDL]) (fun w0 kp => ?_)
 simp only [↓sx0, xE, sevalprocAttr]
 refine BrW.dec (fun h => ?_) (fun h => ?_)
 ·simp only [↓sx0, xE, sevalprocAttr]
  have : isMk s = true := by unfold isMk; rw [decide_eq_true (show s = hash from h)]; rfl
  refine EndW.fn ?_ ?_ <;> simp only [sx4, xK, sevalprocAttr] <;> (try simp [this]) <;> (try omega)
 ·simp only [↓sx0, xE, sevalprocAttr]
  have : isMk s = decide (s = ⟨#[94]⟩) := by unfold isMk; rw [decide_eq_false (show ¬ s = hash from h)]; rfl
  refine EndW.fn ?_ ?_ <;> simp only [sx4, xK, sevalprocAttr] <;> (try simp [this]) <;> (try omega)
theorem bytesD_eq (s : ByteArray) : bytesD s = s.data.toList.map fun b => [.v (.int .u8 (b.toNat : Int))] := rfl
theorem bytesD_len (s : ByteArray) : (bytesD s).length = s.size := by simp [bytesD]
theorem isWord_s (s : ByteArray) (hs : s.size ≤ 1000000000) : Ctr Tryz.prog 152 [(.v (.string (s)))] (fun rr => rr = ⟨(.v (.bool (isWd s))), []⟩) := by
 refine Ctr.of (rs := [.tmp 2]) Tok true Tryz.func152 rfl rfl rfl rfl (by simp [ofDL]) (fun w0 kp => ?_)
 simp only [↓sx0, xE, sevalprocAttr]
 rw [bytesD_len]
 refine LoopW.comp [0, 6, 7, 8] (by simp only [sx2, xR, sevalprocAttr] <;> (try simp) <;> (try omega)) ?_
 simp only [sx2, sxR, sevalprocAttr]
 refine LoopW.up Tok (fun k : Nat => [(8, (.v (.int .i64 k)))]) (fun k => []) (fun k => []) (fun k => []) (fun k => k ≤ s.size ∧ (s.data.toList.take k).all okB = true) (fun k => s.size - k) (0) (by simp only [sx2, xR, sevalprocAttr] <;> (try simp) <;> (try omega)) ?_ ?_
 ·exact ⟨by omega, by simp⟩
 rintro k ⟨hk, ht⟩
 simp only [↓sx0, xE, sevalprocAttr]
 refine BrW.dec (fun hlt => ?_) (fun hlt => ?_)
 ·simp only [↓sx0, xE, sevalprocAttr]
  have hlt : k < s.size := by omega
  have hl : k < s.data.toList.length := by simpa using hlt
  rw [bytesD_eq]
  refine IxW.nat hl ?_
  simp only [↓sx0, xE, sevalprocAttr]
  have nxt := take_all_succ hl ht
  have bad := bytesOk_bad (s := s) hl
  generalize hcc : s.data.toList[k] = c at nxt bad ⊢
  clear hcc
  refine BrW.dec (fun h1 => ?_) (fun h1 => ?_)
  ·simp only [↓sx0, xE, sevalprocAttr]
   have : isWd s = false := by rw [isWd, bad (by simp [okB]; omega)]; rfl
   refine EndW.fn ?_ ?_ <;> simp only [sx4, xK, sevalprocAttr] <;> (try simp [this]) <;> (try omega)
  ·simp only [↓sx0, xE, sevalprocAttr]
   refine BrW.dec (fun h2 => ?_) (fun h2 => ?_)
   ·simp only [↓sx0, xE, sevalprocAttr]
    have : isWd s = false := by rw [isWd, bad (by simp [okB]; omega)]; rfl
    refine EndW.fn ?_ ?_ <;> simp only [sx4, xK, sevalprocAttr] <;> (try simp [this]) <;> (try omega)
   ·simp only [↓sx0, xE, sevalprocAttr]
    (with_reducible refine Vc.go ?_ fun _ => ?_); focus (first | omega | (simp only [InK]; omega) | (simp [InK] <;> omega))
    simp only [↓sx0, xE, sevalprocAttr]
    refine ⟨k + 1, StLe.auto (by simp only [sx2, xR, sevalprocAttr] <;> (try simp) <;> (try omega)), ?_, ?_⟩
    ·exact ⟨by omega, nxt (by simp [okB]; omega)⟩
    ·omega
 ·simp only [↓sx0, xE, sevalprocAttr]
  have hke : k = s.size := by omega
  subst hke
  refine CallI.fn (within_s (s.size : Int) 1 30) (by simp only [sx3, xR, sevalprocAttr] <;> (try simp) <;> (try rfl)) ?_
  simp only [↓sx0, xE, sevalprocAttr]
  have : isWd s = decide ((1 : Int) ≤ (s.size : Int) ∧ (s.size : Int) ≤ 30) := by
   rw [isWd, bytesOk, ← List.take_length (l := s.data.toList), show s.data.toList.length = s.size by simp, ht, Bool.true_and, decide_eq_decide]; omega
  refine EndW.fn ?_ ?_ <;> simp only [sx4, xK, sevalprocAttr] <;> (try simp [this]) <;> (try omega)
theorem isByteR_s (c : UInt8) : Ctr Tryz.prog 70 [.v (.int .u8 (c.toNat : Int))] (fun rr => rr = ⟨(.v (.bool (okB c))), []⟩) := by
 refine Ctr.of (rs := [.tmp 2]) Tok true Tryz.func70 rfl rfl rfl rfl (by simp [ofDL]) (fun w0 kp => ?_)
 simp only [↓sx0, xE, sevalprocAttr]
 refine BrW.dec (fun h => ?_) (fun h => ?_)
 ·simp only [↓sx0, xE, sevalprocAttr]
  have : okB c = decide ((c.toNat : Int) ≤ 126) := by unfold okB; rw [decide_eq_decide]; omega
  refine EndW.fn ?_ ?_ <;> simp only [sx4, xK, sevalprocAttr] <;> (try simp [this]) <;> (try omega)
 ·simp only [↓sx0, xE, sevalprocAttr]
  have : okB c = false := by unfold okB; rw [decide_eq_false_iff_not]; omega
  refine EndW.fn ?_ ?_ <;> simp only [sx4, xK, sevalprocAttr] <;> (try simp [this]) <;> (try omega)
theorem isWordR_s (s : ByteArray) (hs : s.size ≤ 1000000000) : Ctr Tryz.prog 39 [(.v (.string (s)))] (fun rr => rr = ⟨(.v (.bool (isWd s))), []⟩) := by
 refine Ctr.of (rs := [.tmp 2]) Tok true Tryz.func39 rfl rfl rfl rfl (by simp [ofDL]) (fun w0 kp => ?_)
 simp only [↓sx0, xE, sevalprocAttr]
 refine LoopW.comp [0, 3] (by simp only [sx2, xR, sevalprocAttr] <;> (try simp) <;> (try omega)) ?_
 simp only [sx2, sxR, sevalprocAttr]
 refine LoopW.up Tok (fun k : Nat => [(3, (.v (.int .i64 k)))]) (fun k => []) (fun k => []) (fun k => []) (fun k => k ≤ s.size ∧ (s.data.toList.take k).all okB = true) (fun k => s.size - k) (0) (by simp only [sx2, xR, sevalprocAttr] <;> (try simp) <;> (try omega)) ?_ ?_
 ·exact ⟨by omega, by simp⟩
 rintro k ⟨hk, ht⟩
 simp only [↓sx0, xE, sevalprocAttr]
 refine BrW.dec (fun hlt => ?_) (fun hlt => ?_)
 ·simp only [↓sx0, xE, sevalprocAttr]
  have hlt : k < s.size := by omega
  have hl : k < s.data.toList.length := by simpa using hlt
  refine StrIx.nat hlt ?_
  have nxt := take_all_succ hl ht
  have bad := bytesOk_bad (s := s) hl
  have hce : s[k] = s.data.toList[k] := rfl
  rw [hce]
  generalize hcc : s.data.toList[k] = c at nxt bad ⊢
  clear hcc hce
  simp only [↓sx0, xE, sevalprocAttr]
  refine CallI.fn (isByteR_s c) (by simp only [sx3, xR, sevalprocAttr] <;> (try simp) <;> (try rfl)) ?_
  simp only [↓sx0, xE, sevalprocAttr]
  refine BrW.of (fun hb => ?_) (fun hb => ?_)
  ·simp only [↓sx0, xE, sevalprocAttr]
   (with_reducible refine Vc.go ?_ fun _ => ?_); focus (first | omega | (simp only [InK]; omega) | (simp [InK] <;> omega))
   simp only [↓sx0, xE, sevalprocAttr]
   refine ⟨k + 1, StLe.auto (by simp only [sx2, xR, sevalprocAttr] <;> (try simp) <;> (try omega)), ?_, ?_⟩
   ·exact ⟨by omega, nxt hb⟩
   ·omega
  ·simp only [↓sx0, xE, sevalprocAttr]
   have : isWd s = false := by rw [isWd, bad hb]; rfl
   refine EndW.fn ?_ ?_ <;> simp only [sx4, xK, sevalprocAttr] <;> (try simp [this]) <;> (try omega)
 ·simp only [↓sx0, xE, sevalprocAttr]
  have hke : k = s.size := by omega
  subst hke
  refine CallI.fn (withinB_s (s.size : Int) 1 30) (by simp only [sx3, xR, sevalprocAttr] <;> (try simp) <;> (try rfl)) ?_
  simp only [↓sx0, xE, sevalprocAttr]
  have : isWd s = decide ((1 : Int) ≤ (s.size : Int) ∧ (s.size : Int) ≤ 30) := by
   rw [isWd, bytesOk, ← List.take_length (l := s.data.toList), show s.data.toList.length = s.size by simp, ht, Bool.true_and, decide_eq_decide]; omega
  refine EndW.fn ?_ ?_ <;> simp only [sx4, xK, sevalprocAttr] <;> (try simp [this]) <;> (try omega)
end Go.Proofs.YtgcmppghjfidfaaGreatDoor
/-
 Whether a text is a word: the library's search for a rune, by its own contract.
-/
namespace Go.Proofs.YtgcmppghjfidfaaGreatDoor
open Go Go.Vx Go.Shelf Go.RowKit
def rIdx : Ren := ⟨fun | 315 => 169 | n => n, fun | 9 => 9 | 40 => 199 | 4 => 4 | 3 => 3 | 0 => 0 | 21 => 21 | n => n, fun n => n⟩
theorem laysIdx : Lays.n315 Tryz.prog rIdx := { mixed := rfl, f315 := Tryz.func169, t0 := Tryz.underlying0, a0 := Tryz.isAgg0, z0 := Tryz.sizeOf0, v0 := Tryz.zeroValue0, t3 := Tryz.underlying3, a3 := Tryz.isAgg3, z3 := Tryz.sizeOf3, v3 := Tryz.zeroValue3, t4 := Tryz.underlying4, a4 := Tryz.isAgg4, z4 := Tryz.sizeOf4, v4 := Tryz.zeroValue4, t9 := Tryz.underlying9, a9 := Tryz.isAgg9, z9 := Tryz.sizeOf9, v9 := Tryz.zeroValue9, t21 := Tryz.underlying21, a21 := Tryz.isAgg21, z21 := Tryz.sizeOf21, v21 := Tryz.zeroValue21, t40 := Tryz.underlying199, a40 := Tryz.isAgg199, z40 := Tryz.sizeOf199, v40 := Tryz.zeroValue199 }
def badR (r : Nat) : Bool := decide (r < 33) || decide (126 < r)
theorem isWord1_s (r : Nat) : Ctr Tryz.prog 135 [.v (.int .i32 (r : Int))] (fun rr => rr = ⟨(.v (.bool (badR r))), []⟩) := by
 refine Ctr.of (rs := [.tmp 2]) Tok true Tryz.func135 rfl rfl rfl rfl (by simp [ofDL]) (fun w0 kp => ?_)
 simp only [↓sx0, xE, sevalprocAttr]
 refine BrW.dec (fun h => ?_) (fun h => ?_)
 ·simp only [↓sx0, xE, sevalprocAttr]
  have : badR r = true := by simp [badR]; omega
  refine EndW.fn ?_ ?_ <;> simp only [sx4, xK, sevalprocAttr] <;> (try simp [this]) <;> (try omega)
 ·simp only [↓sx0, xE, sevalprocAttr]
  have : badR r = decide (126 < (r : Int)) := by rw [Bool.eq_iff_iff]; simp [badR]; omega
  refine EndW.fn ?_ ?_ <;> simp only [sx4, xK, sevalprocAttr] <;> (try simp [this]) <;> (try omega)
/-- a contract with values, as a fact on calls. -/
theorem ctr_call {P : Program} {f : FuncId} {xs : List Value} {u : Value} (h : Ctr P f (xs.map .v) (fun rr => rr = ⟨.v u, []⟩)) (w : World) : Calls P f xs.toArray w fun e w' => e = .returned u ∧ Below w.heap.size w w' := by
 refine (h.2 w (fun _ => none) (fun b o hb => by cases hb) xs (rels_same xs)).mono ?_
 rintro e w' ⟨v, r, rfl, rfl, hb, g, _, _, hv, _⟩
 simp only [rel] at hv
 exact ⟨by rw [hv], hb⟩
theorem grows (w : World) : PredGrows Tryz.prog 135 #[] badR w := fun W x _ _ => by
 have := ctr_call (xs := [.int .i32 (x : Int)]) (isWord1_s x) W
 simpa using this
theorem callee (args : Array Value) (w : World) : (callFunc 135 args).run Tryz.prog w = .ok (.enter 135 args) w := Go.Proofs.enters_of Tryz.func135 (by kernel_rfl) rfl args w
theorem indexFunc_s (s : ByteArray) : Ctr Tryz.prog 169 [(.v (.string (s))), .clo 135 [], (.v (.bool (true)))] (fun rr => rr = ⟨(.v (.int .i64 (Lib.idxFunc badR true s))), []⟩) := by
 refine ⟨⟨_, Tryz.func169, rfl, rfl⟩, fun w kp hk vs hr => ?_⟩
 match vs, hr with
 | [a, b, c], ⟨h1, ⟨cs, h2, h3⟩, h4, _⟩ =>
  simp only [rel] at h1 h4
  have hcs : cs = #[] := by
   cases hl : cs.toList with
   | nil => simpa using hl
   | cons x l => rw [hl] at h3; exact h3.elim
  subst hcs
  rw [h1, h2, h4]
  have := Any.strings_indexFunc_grows laysIdx 135 #[] callee badR true s w (grows w)
  refine Calls.mono this ?_
  rintro e w' ⟨rfl, hb⟩
  exact ⟨_, _, rfl, rfl, RetOk.plain hk hb fun g => rfl⟩
theorem decode_big (s : ByteArray) (pos : Nat) (h : pos < s.size) (ha : 128 ≤ s[pos].toNat) : 128 ≤ (Utf8.decode s pos).1 := by
 have h0 : (s.get! (pos + 0)).toNat = s[pos].toNat := by simp [ByteArray.get!, h, getElem!_pos, ByteArray.getElem_eq_getElem_data]
 unfold Utf8.decode
 simp only [h0, Utf8.runeError]
 repeat' split
 all_goals first | omega | (rename_i hh; simp only [Bool.and_eq_true, decide_eq_true_eq] at hh; omega) | (simp_all; done) | (simp_all; omega)
theorem idx_from {s : ByteArray} : ∀ (f pos : Nat), s.size ≤ pos + f → (Lib.idxFuncFrom badR true s f pos < 0 ↔ (s.data.toList.drop pos).all okB = true)
 | 0, pos, h => by
  have : s.data.toList.drop pos = [] := List.drop_eq_nil_iff.2 (by simp; omega)
  simp [Lib.idxFuncFrom, this]
 | f + 1, pos, h => by
  unfold Lib.idxFuncFrom
  split
  ·rename_i hlt
   have hl : pos < s.data.toList.length := by simpa using hlt
   rw [List.drop_eq_getElem_cons hl, List.all_cons]
   have hce : s[pos] = s.data.toList[pos] := rfl
   rw [← hce]
   by_cases ha : s[pos].toNat < 128
   ·rw [decode_ascii s pos hlt ha]
    by_cases hb : badR s[pos].toNat = true
    ·rw [if_pos hb]
     have : okB s[pos] = false := by simp only [badR, Bool.or_eq_true, decide_eq_true_eq] at hb; simp [okB]; omega
     rw [this]; simp
    ·rw [if_neg hb, idx_from f (pos + 1) (by omega)]
     have : okB s[pos] = true := by simp only [badR, Bool.or_eq_true, decide_eq_true_eq] at hb; simp [okB]; omega
     rw [this, Bool.true_and]
   ·have h1 := decode_big s pos hlt (by omega)
    rw [if_pos (by simp [badR]; omega)]
    have : okB s[pos] = false := by simp [okB]; omega
    rw [this]; simp
  ·have : s.data.toList.drop pos = [] := List.drop_eq_nil_iff.2 (by simp; omega)
   simp [this]
theorem idx_ok (s : ByteArray) : decide (Lib.idxFunc badR true s < 0) = bytesOk s := by
 have := idx_from (s := s) s.size 0 (by omega)
 rw [Bool.eq_iff_iff, decide_eq_true_eq]
 simpa [Lib.idxFunc, bytesOk] using this
theorem isWordT_s (s : ByteArray) : Ctr Tryz.prog 91 [(.v (.string (s)))] (fun rr => rr = ⟨(.v (.bool (isWd s))), []⟩) := by
 have hI : Ctr Tryz.prog 134 [(.v (.string (s))), .clo 135 []] (fun rr => rr = ⟨(.v (.int .i64 (Lib.idxFunc badR true s))), []⟩) := by
  refine Ctr.of (rs := [.tmp 4]) Tok true Tryz.func134 rfl rfl rfl rfl (by simp [ofDL]) (fun w0 kp => ?_)
  simp only [↓sx0, xE, sevalprocAttr]
  refine CallI.fn (indexFunc_s s) (by simp only [sx3, xR, sevalprocAttr] <;> (try simp) <;> (try rfl)) ?_
  simp only [↓sx0, xE, sevalprocAttr]
  refine EndW.fn ?_ ?_ <;> simp only [sx4, xK, sevalprocAttr] <;> (try simp) <;> (try omega)
 refine Ctr.of (rs := [.tmp 2]) Tok true Tryz.func91 rfl rfl rfl rfl (by simp [ofDL]) (fun w0 kp => ?_)
 simp only [↓sx0, xE, sevalprocAttr]
 refine CallI.fn (withinT_s (s.size : Int) 1 30) (by simp only [sx3, xR, sevalprocAttr] <;> (try simp) <;> (try rfl)) ?_
 simp only [↓sx0, xE, sevalprocAttr]
 refine BrW.of (fun hw => ?_) (fun hw => ?_)
 ·have hw : (1 : Int) ≤ s.size ∧ (s.size : Int) ≤ 30 := by simpa using hw
  simp only [↓sx0, xE, sevalprocAttr]
  refine CallI.fn (hI) (by simp only [sx3, xR, sevalprocAttr] <;> (try simp) <;> (try rfl)) ?_
  simp only [↓sx0, xE, sevalprocAttr]
  rw [idx_ok]
  have : isWd s = bytesOk s := by rw [isWd, decide_eq_true (show 1 ≤ s.size ∧ s.size ≤ 30 by omega), Bool.and_true]
  refine EndW.fn ?_ ?_ <;> simp only [sx4, xK, sevalprocAttr] <;> (try simp [this]) <;> (try omega)
 ·have hw : ¬ ((1 : Int) ≤ s.size ∧ (s.size : Int) ≤ 30) := by simpa using hw
  simp only [↓sx0, xE, sevalprocAttr]
  have : isWd s = false := by rw [isWd, decide_eq_false (show ¬ (1 ≤ s.size ∧ s.size ≤ 30) by omega), Bool.and_false]
  refine EndW.fn ?_ ?_ <;> simp only [sx4, xK, sevalprocAttr] <;> (try simp [this]) <;> (try omega)
end Go.Proofs.YtgcmppghjfidfaaGreatDoor
/-
 Chapter 8, walks: parts of a copy are right.
-/
namespace Go.Proofs.YtgcmppghjfidfaaGreatDoor
open Go Go.Vx
set_option maxRecDepth 20000
def ixG {α : Type} (p : α → Bool) (l : List α) : Int := match l.findIdx? p with
 | some k => (k : Int)
 | none => -1
theorem ixG_at {α : Type} {p : α → Bool} {l : List α} {k : Nat} (hk : k < l.length) (he : p l[k] = true) (ht : ∀ j (_ : j < k) (h2 : j < l.length), p l[j] = false) : ixG p l = k := by
 have : l.findIdx? p = some k := by
  rw [List.findIdx?_eq_some_iff_getElem]
  exact ⟨hk, he, fun j hj => by simpa using ht j hj (by omega)⟩
 simp [ixG, this]
theorem ixG_no {α : Type} {p : α → Bool} {l : List α} (ht : ∀ j (h2 : j < l.length), p l[j] = false) : ixG p l = -1 := by
 have : l.findIdx? p = none := by
  rw [List.findIdx?_eq_none_iff]
  intro y hy
  obtain ⟨j, h1, rfl⟩ := List.getElem_of_mem hy
  exact ht j h1
 simp [ixG, this]
theorem ixG_any {α : Type} {p : α → Bool} {l : List α} : decide (0 ≤ ixG p l) = l.any p := by
 rw [Bool.eq_iff_iff, decide_eq_true_eq, List.any_eq_true]
 unfold ixG
 cases h : l.findIdx? p with
 | none =>
  rw [List.findIdx?_eq_none_iff] at h
  simp only
  refine ⟨fun h => by omega, fun ⟨x, h1, h2⟩ => ?_⟩
  rw [h x h1] at h2; cases h2
 | some k =>
  rw [List.findIdx?_eq_some_iff_getElem] at h
  obtain ⟨h1, h2, _⟩ := h
  exact ⟨fun _ => ⟨_, List.getElem_mem h1, h2⟩, fun _ => by simp only; omega⟩
theorem indexS_s (b : Bool) (f : Nat) (p : ByteArray → Bool) (l : List ByteArray) (hl : l.length ≤ 1000000000) (hof : ∀ x ∈ l, Ctr Tryz.prog f [(.v (.string (x)))] (fun rr => rr = ⟨(.v (.bool (p x))), []⟩)) : Ctr Tryz.prog 167 [.sl b 1 (l.map eS), .clo f []] (fun rr => rr = ⟨(.v (.int .i64 (ixG p l))), []⟩) := by
 refine Ctr.of (rs := [.tmp 4]) Tok true Tryz.func167 rfl rfl rfl rfl (by simp [ofDL]) (fun w0 kp => ?_)
 simp only [↓sx0, xE, sevalprocAttr]
 refine LoopW.comp [0, 1, 7, 8] (by simp only [sx2, xR, sevalprocAttr] <;> (try simp) <;> (try omega)) ?_
 simp only [sx2, sxR, sevalprocAttr]
 refine LoopW.up Tok (fun k : Nat => [(8, (.v (.int .i64 k)))]) (fun k => []) (fun k => []) (fun k => []) (fun k => k ≤ l.length ∧ ∀ j (_ : j < k) (h2 : j < l.length), p l[j] = false) (fun k => l.length - k) (0) (by simp only [sx2, xR, sevalprocAttr] <;> (try simp) <;> (try omega)) ?_ ?_
 ·exact ⟨by omega, fun j h => absurd h (Nat.not_lt_zero _)⟩
 rintro k ⟨hk, ht⟩
 simp only [↓sx0, xE, sevalprocAttr]
 refine BrW.dec (fun hlt => ?_) (fun hlt => ?_)
 ·simp only [↓sx0, xE, sevalprocAttr]
  have hlt : k < l.length := by omega
  refine IxW.nat hlt ?_
  simp only [↓sx0, xE, sevalprocAttr]
  refine CallI.fn (hof l[k] (List.getElem_mem hlt)) (by simp only [sx3, xR, sevalprocAttr] <;> (try simp) <;> (try rfl)) ?_
  simp only [↓sx0, xE, sevalprocAttr]
  refine BrW.of (fun hb => ?_) (fun hb => ?_)
  ·simp only [↓sx0, xE, sevalprocAttr]
   have := ixG_at hlt hb ht
   refine EndW.fn ?_ ?_ <;> simp only [sx4, xK, sevalprocAttr] <;> (try simp [this]) <;> (try omega)
  ·simp only [↓sx0, xE, sevalprocAttr]
   (with_reducible refine Vc.go ?_ fun _ => ?_); focus (first | omega | (simp only [InK]; omega) | (simp [InK] <;> omega))
   simp only [↓sx0, xE, sevalprocAttr]
   refine ⟨k + 1, StLe.auto (by simp only [sx2, xR, sevalprocAttr] <;> (try simp) <;> (try omega)), ?_, ?_⟩
   ·refine ⟨hlt, fun j h h2 => ?_⟩
    by_cases e : j = k
    ·subst e; exact hb
    ·exact ht j (by omega) h2
   ·omega
 ·simp only [↓sx0, xE, sevalprocAttr]
  have hke : k = l.length := by omega
  subst hke
  have := ixG_no (l := l) (p := p) fun j h => ht j h h
  refine EndW.fn ?_ ?_ <;> simp only [sx4, xK, sevalprocAttr] <;> (try simp [this]) <;> (try omega)
theorem containsS_s (b : Bool) (f : Nat) (p : ByteArray → Bool) (l : List ByteArray) (hl : l.length ≤ 1000000000) (hof : ∀ x ∈ l, Ctr Tryz.prog f [(.v (.string (x)))] (fun rr => rr = ⟨(.v (.bool (p x))), []⟩)) : Ctr Tryz.prog 127 [.sl b 1 (l.map eS), .clo f []] (fun rr => rr = ⟨(.v (.bool (l.any p))), []⟩) := by
 refine Ctr.of (rs := [.tmp 4]) Tok true Tryz.func127 rfl rfl rfl rfl (by simp [ofDL]) (fun w0 kp => ?_)
 simp only [↓sx0, xE, sevalprocAttr]
 refine CallI.fn (indexS_s b f p l hl hof) (by simp only [sx3, xR, sevalprocAttr] <;> (try simp) <;> (try rfl)) ?_
 simp only [↓sx0, xE, sevalprocAttr]
 rw [ixG_any]
 refine EndW.fn ?_ ?_ <;> simp only [sx4, xK, sevalprocAttr] <;> (try simp) <;> (try omega)
def badW (s : ByteArray) : Bool := !isWd s
theorem part1_s (s : ByteArray) : Ctr Tryz.prog 128 [(.v (.string (s)))] (fun rr => rr = ⟨(.v (.bool (badW s))), []⟩) := by
 refine Ctr.of (rs := [.tmp 2]) Tok true Tryz.func128 rfl rfl rfl rfl (by simp [ofDL]) (fun w0 kp => ?_)
 simp only [↓sx0, xE, sevalprocAttr]
 refine CallI.fn (isWordT_s s) (by simp only [sx3, xR, sevalprocAttr] <;> (try simp) <;> (try rfl)) ?_
 simp only [↓sx0, xE, sevalprocAttr]
 refine EndW.fn ?_ ?_ <;> simp only [sx4, xK, sevalprocAttr] <;> (try simp [badW]) <;> (try omega)
/-- the error of a part. -/
def partErr (p : Pt) : Int :=
 if 1 ≤ p.kind ∧ p.kind ≤ 3 then (if p.words.length = 0 then 10 else if 100 < p.words.length then 8 else if p.words.any badW = true ∨ isMk (p.words.headD hash) = true then 3 else 0) else 15
theorem headD_get {α : Type} {l : List α} {d : α} (h : 0 < l.length) : l.headD d = l[0] := by
 cases l with
 | nil => simp at h
 | cons x l => rfl
theorem checkPart_s (b : Bool) (p : Pt) : Ctr Tryz.prog 84 [.agg [(.v (.int .i64 p.kind)), .sl b 1 (p.words.map eS)]] (fun rr => rr = ⟨(.v (.int .i64 (partErr p))), []⟩) := by
 refine Ctr.of (rs := [.tmp 2]) Tok true Tryz.func84 rfl rfl rfl rfl (by simp [ofDL]) (fun w0 kp => ?_)
 simp only [↓sx0, xE, sevalprocAttr]
 refine CallI.fn (withinT_s p.kind 1 3) (by simp only [sx3, xR, sevalprocAttr] <;> (try simp) <;> (try rfl)) ?_
 simp only [↓sx0, xE, sevalprocAttr]
 refine BrW.of (fun hk => ?_) (fun hk => ?_)
 ·have hk : 1 ≤ p.kind ∧ p.kind ≤ 3 := by simpa using hk
  simp only [↓sx0, xE, sevalprocAttr]
  refine BrW.dec (fun h0 => ?_) (fun h0 => ?_)
  ·simp only [↓sx0, xE, sevalprocAttr]
   rw [show partErr p = 10 by rw [partErr, if_pos hk, if_pos (by omega)]]
   refine EndW.fn ?_ ?_ <;> simp only [sx4, xK, sevalprocAttr] <;> (try simp) <;> (try omega)
  ·simp only [↓sx0, xE, sevalprocAttr]
   refine BrW.dec (fun h8 => ?_) (fun h8 => ?_)
   ·simp only [↓sx0, xE, sevalprocAttr]
    rw [show partErr p = 8 by rw [partErr, if_pos hk, if_neg (by omega), if_pos (by omega)]]
    refine EndW.fn ?_ ?_ <;> simp only [sx4, xK, sevalprocAttr] <;> (try simp) <;> (try omega)
   ·simp only [↓sx0, xE, sevalprocAttr]
    have hpe : partErr p = if p.words.any badW = true ∨ isMk (p.words.headD hash) = true then 3 else 0 := by rw [partErr, if_pos hk, if_neg (by omega), if_neg (by omega)]
    have hpos : 0 < p.words.length := by omega
    refine CallI.fn (containsS_s b 128 badW p.words (by omega) (fun x _ => part1_s x)) (by simp only [sx3, xR, sevalprocAttr] <;> (try simp) <;> (try rfl)) ?_
    simp only [↓sx0, xE, sevalprocAttr]
    refine BrW.of (fun hb => ?_) (fun hb => ?_)
    ·simp only [↓sx0, xE, sevalprocAttr]
     rw [hpe, if_pos (.inl hb)]
     refine EndW.fn ?_ ?_ <;> simp only [sx4, xK, sevalprocAttr] <;> (try simp) <;> (try omega)
    ·simp only [↓sx0, xE, sevalprocAttr]
     refine IxW.nat (j := 0) hpos ?_
     simp only [↓sx0, xE, sevalprocAttr]
     refine CallI.fn (isMark_s p.words[0]) (by simp only [sx3, xR, sevalprocAttr] <;> (try simp) <;> (try rfl)) ?_
     simp only [↓sx0, xE, sevalprocAttr]
     refine BrW.of (fun hm => ?_) (fun hm => ?_)
     ·simp only [↓sx0, xE, sevalprocAttr]
      rw [hpe, if_pos (.inr (by rw [headD_get hpos]; exact hm))]
      refine EndW.fn ?_ ?_ <;> simp only [sx4, xK, sevalprocAttr] <;> (try simp) <;> (try omega)
     ·simp only [↓sx0, xE, sevalprocAttr]
      rw [hpe, if_neg (by rw [headD_get hpos, hb, hm]; simp)]
      refine EndW.fn ?_ ?_ <;> simp only [sx4, xK, sevalprocAttr] <;> (try simp) <;> (try omega)
 ·have hk : ¬ (1 ≤ p.kind ∧ p.kind ≤ 3) := by simpa using hk
  simp only [↓sx0, xE, sevalprocAttr]
  rw [show partErr p = 15 by rw [partErr, if_neg hk]]
  refine EndW.fn ?_ ?_ <;> simp only [sx4, xK, sevalprocAttr] <;> (try simp) <;> (try omega)
/-- the number and the error of the first part that is wrong. -/
def partsE : Nat → List Pt → Int × Int
 | _, [] => (0, 0)
 | k, p :: l => if partErr p = 0 then partsE (k + 1) l else ((k : Int), partErr p)
def partsErr (l : List Pt) : Int × Int := if 60 < l.length then (0, 8) else partsE 0 l
theorem partsE_at {l : List Pt} {k : Nat} (h : k < l.length) (ht : partsE k (l.drop k) = partsE 0 l) : partsE 0 l = if partErr l[k] = 0 then partsE (k + 1) (l.drop (k + 1)) else ((k : Int), partErr l[k]) := by
 rw [← ht, List.drop_eq_getElem_cons h]
 rfl
theorem checkParts_s (b b2 : Bool) (l : List Pt) : Ctr Tryz.prog 54 [.sl b 2 (l.map (eP b2))] (fun rr => rr = ⟨.tup [(.v (.int .i64 ((partsErr l).1))), (.v (.int .i64 ((partsErr l).2)))], []⟩) := by
 refine Ctr.of (rs := [.tmp 2, .tmp 3]) Tok true Tryz.func54 rfl rfl rfl rfl (by simp [ofDL]) (fun w0 kp => ?_)
 simp only [↓sx0, xE, sevalprocAttr]
 refine BrW.dec (fun h1 => ?_) (fun h1 => ?_)
 ·simp only [↓sx0, xE, sevalprocAttr]
  rw [show partsErr l = (0, 8) by rw [partsErr, if_pos (by omega)]]
  refine EndW.fn ?_ ?_ <;> simp only [sx4, xK, sevalprocAttr] <;> (try simp) <;> (try omega)
 ·simp only [↓sx0, xE, sevalprocAttr]
  rw [show partsErr l = partsE 0 l by rw [partsErr, if_neg (by omega)]]
  refine LoopW.comp [10, 11, 12] (by simp only [sx2, xR, sevalprocAttr] <;> (try simp) <;> (try omega)) ?_
  simp only [sx2, sxR, sevalprocAttr]
  refine LoopW.up Tok (fun k : Nat => [(12, (.v (.int .i64 k)))]) (fun k => []) (fun k => []) (fun k => []) (fun k => k ≤ l.length ∧ partsE k (l.drop k) = partsE 0 l) (fun k => l.length - k) (0) (by simp only [sx2, xR, sevalprocAttr] <;> (try simp) <;> (try omega)) ?_ ?_
  ·exact ⟨by omega, rfl⟩
  rintro k ⟨hk, ht⟩
  simp only [↓sx0, xE, sevalprocAttr]
  refine BrW.dec (fun hlt => ?_) (fun hlt => ?_)
  ·simp only [↓sx0, xE, sevalprocAttr]
   have hlt : k < l.length := by omega
   have he := partsE_at hlt ht
   refine IxW.nat hlt ?_
   simp only [↓sx0, xE, sevalprocAttr]
   refine CallI.fn (checkPart_s b2 l[k]) (by simp only [sx3, xR, sevalprocAttr] <;> (try simp) <;> (try rfl)) ?_
   simp only [↓sx0, xE, sevalprocAttr]
   refine BrW.dec (fun hp => ?_) (fun hp => ?_)
   ·simp only [↓sx0, xE, sevalprocAttr]
    rw [if_neg hp] at he
    rw [he]
    refine EndW.fn ?_ ?_ <;> simp only [sx4, xK, sevalprocAttr] <;> (try simp) <;> (try omega)
   ·simp only [↓sx0, xE, sevalprocAttr]
    rw [if_pos (Decidable.not_not.1 hp)] at he
    repeat ((with_reducible refine Vc.go ?_ fun _ => ?_); (focus (first | omega | (simp only [InK]; omega) | (simp [InK] <;> omega))); simp only [↓sx0, xE, sevalprocAttr])
    refine ⟨k + 1, StLe.auto (by simp only [sx2, xR, sevalprocAttr] <;> (try simp) <;> (try omega)), ?_, ?_⟩
    ·exact ⟨hlt, he.symm⟩
    ·omega
  ·simp only [↓sx0, xE, sevalprocAttr]
   have hke : k = l.length := by omega
   subst hke
   rw [List.drop_length] at ht
   rw [← ht]
   refine EndW.fn ?_ ?_ <;> simp only [sx4, xK, sevalprocAttr] <;> (try simp [partsE]) <;> (try omega)
theorem checkCopy_s (b b2 : Bool) (l : List Pt) : Ctr Tryz.prog 48 [.sl b 2 (l.map (eP b2))] (fun rr => rr = ⟨(.v (.int .i64 ((partsErr l).2))), []⟩) := by
 refine Ctr.of (rs := [.tmp 2]) Tok true Tryz.func48 rfl rfl rfl rfl (by simp [ofDL]) (fun w0 kp => ?_)
 simp only [↓sx0, xE, sevalprocAttr]
 refine CallI.fn (checkParts_s b b2 l) (by simp only [sx3, xR, sevalprocAttr] <;> (try simp) <;> (try rfl)) ?_
 simp only [↓sx0, xE, sevalprocAttr]
 refine EndW.fn ?_ ?_ <;> simp only [sx4, xK, sevalprocAttr] <;> (try simp) <;> (try omega)
end Go.Proofs.YtgcmppghjfidfaaGreatDoor
/-
 Chapter 8, walks: a copy in memory of its own, with the words of one part still own.
-/
namespace Go.Proofs.YtgcmppghjfidfaaGreatDoor
open Go Go.Vx
set_option maxRecDepth 20000
theorem cloneS_s (b : Bool) (els : List (List D)) (hk : kpLL els) (hl : els.length ≤ 1000000) : Ctr Tryz.prog 81 [.sl b 1 els] (fun rr => rr = ⟨.row 0, [.own 9 1 els]⟩) := by
 refine Ctr.of (rs := [.tmp 2]) Tok false Tryz.func81 rfl rfl rfl rfl (by simp [ofDL]) (fun w0 kp => ?_)
 simp only [↓sx0, xE, sevalprocAttr]
 intro z hz
 refine BrW.of (fun h => ?_) (fun h => ?_)
 ·simp only [↓sx0, xE, sevalprocAttr]
  rw [hz h]
  exact EndW.r [none] (by simp) (by simp only [sx4, sxF, xK, sevalprocAttr] <;> simp) (by simp only [sx4, sxF, xK, sevalprocAttr] <;> simp) (by simp only [sx4, sxF, xK, sevalprocAttr] <;> simp) (by simp only [sx4, sxF, xK, sevalprocAttr] <;> simp)
 ·simp only [↓sx0, xE, sevalprocAttr]
  (with_reducible refine Vc.go ?_ fun _ => ?_); focus (first | omega | (simp only [InK]; omega) | (simp [InK] <;> omega))
  simp only [↓sx0, xE, sevalprocAttr]
  exact EndW.r [some 1] (by simp) (by simp only [sx4, sxF, xK, sevalprocAttr] <;> simp [hk]) (by simp only [sx4, sxF, xK, sevalprocAttr] <;> simp [hk]) (by simp only [sx4, sxF, xK, sevalprocAttr] <;> simp [hk]) (by simp only [sx4, sxF, xK, sevalprocAttr] <;> simp [hk])
theorem kpS (l : List ByteArray) : kpLL (l.map eS) := by simp [kpLL_map, eS, kpL, kpD]
theorem kpP (l : List Pt) : kpLL (l.map (eP true)) := by simp [kpLL_map, eP, eS, kpL, kpD]
/-- the parts so far; of part i the words are own, the value is 'u'. -/
def elsA (l : List Pt) (i : Nat) (u : Value) : List (List D) := (l.map (eP true)).set i [.v (.int .i64 (l.getD i ⟨0, []⟩).kind), .v u]
theorem elsA_first {l : List Pt} {i : Nat} (hi : i < l.length) (u : Value) : ((l.take i).map (eP true)) ++ [[.v (.int .i64 l[i].kind), .v u]] = elsA (l.take (i + 1)) i u := by
 unfold elsA
 rw [List.take_succ_eq_append_getElem hi, List.map_append, List.set_append_right _ _ (by simp; omega)]
 have : (List.take i l ++ [l[i]]).getD i ⟨0, []⟩ = l[i] := by
  rw [List.getD_eq_getElem?_getD, List.getElem?_append_right (by simp; omega)]
  simp [show i - min i l.length = 0 by omega]
 rw [this]
 simp [show i - min i l.length = 0 by omega]
theorem elsA_next {l : List Pt} {i k : Nat} (hi : i < k) (hk : k < l.length) (u : Value) : elsA (l.take k) i u ++ [eP true l[k]] = elsA (l.take (k + 1)) i u := by
 unfold elsA
 rw [List.take_succ_eq_append_getElem hk, List.map_append, List.set_append_left _ _ (by simp; omega)]
 have : (List.take k l ++ [l[k]]).getD i ⟨0, []⟩ = (List.take k l).getD i ⟨0, []⟩ := by
  simp only [List.getD_eq_getElem?_getD]
  rw [List.getElem?_append_left (by simp; omega)]
 rw [this]
 rfl
theorem kpA (l : List Pt) (i : Nat) (u : Value) : kpLL (elsA l i u) := by
 rw [kpLL_all]
 intro e he
 rcases List.mem_or_eq_of_mem_set he with h | h
 ·have := kpP l; rw [kpLL_all] at this; exact this e h
 ·subst h; simp [kpL, kpD]
def gA (i k : Nat) : Option Value → SV
 | none => if k = i then .arm else .any
 | some u => .ali 1 u
def rwA (l : List Pt) (i k : Nat) : Option Value → List Rw
 | none => [.own 81 2 ((l.take k).map (eP true))]
 | some u => [.own 81 2 (elsA (l.take k) i u), .own 9 1 ((l.getD i ⟨0, []⟩).words.map eS)]
def JA (l : List Pt) (i k : Nat) : Option Value → Prop
 | none => k ≤ i
 | some u => i < k ∧ k ≤ l.length ∧ ∃ ad n c, u = .slice (some ad) n c
set_option maxHeartbeats 4000000 in
theorem clone_s (b b2 : Bool) (l : List Pt) (i : Nat) (hl : l.length ≤ 1000) (hi : i < l.length) (hw : ∀ p ∈ l, p.words.length ≤ 1000) (hn : 0 < l[i].words.length) :
  CtrA Tryz.prog 49 [.sl b 2 (l.map (eP b2))] (fun r k u => k = 1 ∧ (∃ ad n c, u = .slice (some ad) n c) ∧ r = ⟨.row 0, [.own 81 2 (elsA l i u), .own 9 1 (l[i].words.map eS)]⟩) := by
 refine CtrA.of (rs := [.tmp 2]) Tok Tryz.func49 rfl rfl rfl rfl (by simp [ofDL]) (fun w0 kp => ?_)
 simp only [↓sx0, xE, sevalprocAttr]
 have wl : ∀ k (h : k < l.length), (l[k].words.map eS).length ≤ 1000000 := fun k h => by have := hw _ (List.getElem_mem h); simp; omega
 refine LoopW.inv Tok (fun x : Nat × Option Value => ⟨[(3, .row 0), (8, (.v (.int .i64 x.1))), (6, .sl b 2 (l.map (eP b2))), (7, (.v (.int .i64 l.length))), (1000000, gA i x.1 x.2)], [], rwA l i x.1 x.2⟩) (fun x => JA l i x.1 x.2) (fun x => l.length - x.1) (0, none) (StLe.trans StLe.arm (StLe.auto ?_)) (Nat.zero_le i) ?_
 ·by_cases hz : 0 = i
  ·simp only [gA, rwA, if_pos hz, List.take_zero, List.map_nil]
   simp only [sx2, xR, sevalprocAttr] <;> (try simp) <;> (try omega)
  ·simp only [gA, rwA, if_neg hz, List.take_zero, List.map_nil]
   simp only [sx2, xR, sevalprocAttr] <;> (try simp) <;> (try omega)
 rintro ⟨k, _ | u⟩ hJ
 ·simp only [JA] at hJ
  have hkl : k < l.length := by omega
  by_cases hki : k = i
  ·subst hki
   simp only [gA, rwA, if_true]
   simp only [↓sx0, xE, sevalprocAttr]
   refine BrW.yes (by omega) ?_
   simp only [↓sx0, xE, sevalprocAttr]
   refine IxW.nat hkl ?_
   simp only [↓sx0, xE, sevalprocAttr]
   refine DrawW.plan Tok mixed (.q 0 <| .q 1 <| .q 2 <| .q 3 <| .q 4 <| .e 5 [2] <| .q 6 <| .e 7 [] <| .e 8 [] <| .q 9 <| .done) (by kernel_rfl) (by kernel_rfl) ?_
   simp only [↓sx0, xE, sevalprocAttr]
   refine CallI.ctr (cloneS_s b2 _ (kpS l[k].words) (wl k hkl)) (by simp only [sx3, xR, sevalprocAttr] <;> (try simp) <;> (try rfl)) ?_
   rintro _ rfl
   simp only [↓sx0, xE, sevalprocAttr]
   (with_reducible refine Vc.go ?_ fun _ => ?_)
   ·simpa using hn
   intro ad n0 c0
   simp only [↓sx0, xE, sevalprocAttr]
   repeat ((with_reducible refine Vc.go ?_ fun _ => ?_); (focus (first | omega | (simp only [InK]; omega) | (simp [InK] <;> omega))); simp only [↓sx0, xE, sevalprocAttr])
   refine ⟨(k + 1, some (.slice (some ad) n0 c0)), StLe.auto ?_, ⟨by omega, by omega, ad, n0, c0, rfl⟩, by simp only; omega⟩
   have hf := elsA_first hkl (.slice (some ad) n0 c0)
   have hgd : l.getD k ⟨0, []⟩ = l[k] := by simp [List.getD_eq_getElem?_getD, hkl]
   simp only [gA, rwA, hgd, ← hf]
   simp only [sx2, xR, sevalprocAttr] <;> (try simp) <;> (try omega)
  ·simp only [gA, rwA, if_neg hki]
   simp only [↓sx0, xE, sevalprocAttr]
   refine BrW.yes (by omega) ?_
   simp only [↓sx0, xE, sevalprocAttr]
   refine IxW.nat hkl ?_
   simp only [↓sx0, xE, sevalprocAttr]
   refine DrawW.plan Tok mixed (.q 0 <| .q 1 <| .q 2 <| .q 3 <| .q 4 <| .e 5 [2] <| .q 6 <| .e 7 [] <| .e 8 [] <| .q 9 <| .done) (by kernel_rfl) (by kernel_rfl) ?_
   simp only [↓sx0, xE, sevalprocAttr]
   refine CallI.ctr (cloneS_s b2 _ (kpS l[k].words) (wl k hkl)) (by simp only [sx3, xR, sevalprocAttr] <;> (try simp) <;> (try rfl)) ?_
   rintro _ rfl
   simp only [↓sx0, xE, sevalprocAttr]
   repeat ((with_reducible refine Vc.go ?_ fun _ => ?_); (focus (first | omega | (simp only [InK]; omega) | (simp [InK] <;> omega))); simp only [↓sx0, xE, sevalprocAttr])
   refine ⟨(k + 1, none), StLe.trans StLe.arm (StLe.auto ?_), (by simp only [JA]; omega), by simp only; omega⟩
   have hf : (l.take k).map (eP true) ++ [eP true l[k]] = (l.take (k + 1)).map (eP true) := by rw [List.take_succ_eq_append_getElem hkl, List.map_append]; rfl
   by_cases hz : k + 1 = i
   ·simp only [gA, rwA, if_pos hz, ← hf]
    simp only [sx2, xR, sevalprocAttr] <;> (try simp) <;> (try omega)
   ·simp only [gA, rwA, if_neg hz, ← hf]
    simp only [sx2, xR, sevalprocAttr] <;> (try simp) <;> (try omega)
 ·obtain ⟨h1, h2, ad, n0, c0, rfl⟩ := hJ
  have hgd : l.getD i ⟨0, []⟩ = l[i] := by simp [List.getD_eq_getElem?_getD, hi]
  simp only [gA, rwA, hgd]
  simp only [↓sx0, xE, sevalprocAttr]
  refine BrW.dec (fun hlt => ?_) (fun hlt => ?_)
  ·simp only [↓sx0, xE, sevalprocAttr]
   have hkl : k < l.length := by omega
   have hel : (elsA (l.take k) i (.slice (some ad) n0 c0)).length ≤ 1000 := by simp [elsA]; omega
   refine IxW.nat hkl ?_
   simp only [↓sx0, xE, sevalprocAttr]
   refine DrawW.plan Tok mixed (.q 0 <| .q 1 <| .q 2 <| .q 3 <| .q 4 <| .e 5 [2] <| .q 6 <| .e 7 [] <| .e 8 [] <| .q 9 <| .done) (by kernel_rfl) (by kernel_rfl) ?_
   simp only [↓sx0, xE, sevalprocAttr]
   refine CallI.ctr (cloneS_s b2 _ (kpS l[k].words) (wl k hkl)) (by simp only [sx3, xR, sevalprocAttr] <;> (try simp) <;> (try rfl)) ?_
   rintro _ rfl
   simp only [↓sx0, xE, sevalprocAttr]
   repeat ((with_reducible refine Vc.go ?_ fun _ => ?_); (focus (first | omega | (simp only [InK]; omega) | (simp [InK] <;> omega))); simp only [↓sx0, xE, sevalprocAttr])
   refine ⟨(k + 1, some (.slice (some ad) n0 c0)), StLe.auto ?_, ⟨by simp only; omega, by simp only; omega, ad, n0, c0, rfl⟩, by simp only; omega⟩
   have hf := elsA_next (l := l) h1 hkl (.slice (some ad) n0 c0)
   simp only [gA, rwA, hgd, ← hf]
   simp only [sx2, xR, sevalprocAttr] <;> (try simp) <;> (try omega)
  ·simp only [↓sx0, xE, sevalprocAttr]
   have hke : k = l.length := by simp only at h2; omega
   subst hke
   rw [List.take_length]
   refine ⟨[some 0, some 1], ⟨.row 0, [.own 81 2 (elsA l i (.slice (some ad) n0 c0)), .own 9 1 (l[i].words.map eS)]⟩, 1, .slice (some ad) n0 c0, ⟨rfl, ⟨ad, n0, c0, rfl⟩, rfl⟩, by simp, ?_, ?_, ?_, ?_, ?_⟩
   all_goals (
    simp only [sxL, sxF, sxG, sxY, sxH, sxU, encs, sxN, sevalprocAttr, ne_eq, decide_true, decide_false]
    try simp [kpA, kpS] )
end Go.Proofs.YtgcmppghjfidfaaGreatDoor
/-
 Chapter 8: words are put in between, by the library's own contract.
-/
namespace Go.Proofs.YtgcmppghjfidfaaGreatDoor
open Go Go.Vx Go.Shelf Go.RowKit
def rIns : Ren := ⟨fun | 22 => 122 | 29 => 162 | 30 => 163 | 36 => 199 | 17 => 225 | n => n, fun | 24 => 51 | 9 => 9 | 3 => 3 | 4 => 4 | 0 => 0 | n => n, fun n => n⟩
set_option maxRecDepth 100000 in
theorem laysIns : Lays2.n22 Tryz.prog rIns := { mixed := rfl, f17 := Tryz.func225, f22 := Tryz.func122, f29 := Tryz.func162, f30 := Tryz.func163, f36 := Tryz.func199, t0 := Tryz.underlying0, a0 := Tryz.isAgg0, z0 := Tryz.sizeOf0, v0 := Tryz.zeroValue0, t3 := Tryz.underlying3, a3 := Tryz.isAgg3, z3 := Tryz.sizeOf3, v3 := Tryz.zeroValue3, t4 := Tryz.underlying4, a4 := Tryz.isAgg4, z4 := Tryz.sizeOf4, v4 := Tryz.zeroValue4, t9 := Tryz.underlying9, a9 := Tryz.isAgg9, z9 := Tryz.sizeOf9, v9 := Tryz.zeroValue9, t24 := Tryz.underlying51, a24 := Tryz.isAgg51, z24 := Tryz.sizeOf51, v24 := Tryz.zeroValue51, i9 := rfl }
def vS (l : List ByteArray) : List Value := l.map Value.string
theorem rdLL_str {μ : Mu} : ∀ {l : List ByteArray} {vss : List (List Value)}, RdLL μ (l.map eS) vss → vss.flatten = vS l ∧ vss.length = l.length
 | [], [], _ => ⟨rfl, rfl⟩
 | x :: l, vs :: vss, h => by
  simp only [List.map_cons, RdLL, eS] at h
  obtain ⟨h1, h2⟩ := h
  match vs, h1 with
  | [v], h1 =>
   simp only [RdL, Rd] at h1
   obtain ⟨k1, k2⟩ := rdLL_str h2
   exact ⟨by simp [k1, vS, h1.1.1], by simp [k2]⟩
  | [], h1 => simp [RdL] at h1
  | _ :: _ :: _, h1 => simp [RdL] at h1
 | [], _ :: _, h => by simp [RdLL] at h
 | _ :: _, [], h => by simp [RdLL] at h
theorem rdLL_of {μ : Mu} : ∀ l : List ByteArray, RdLL μ (l.map eS) (l.map fun s => [Value.string s])
 | [] => by simp [RdLL]
 | x :: l => by simp only [List.map_cons, RdLL, eS, RdL, Rd]; exact ⟨⟨⟨trivial, rfl⟩, trivial⟩, rdLL_of l⟩
theorem fl_str (l : List ByteArray) : (l.map fun s => [Value.string s]).flatten = vS l := by
 induction l with
 | nil => rfl
 | cons x l ih => simp [ih, vS]
/-- an own row of texts. -/
theorem rowOk_str {μ : Mu} {base : Nat} {w : World} {v : Value} {e : TypeId} {l : List ByteArray} : RowOk μ base w v e 1 (l.map eS) ↔ w.ownsRow base e 1 v l.length (vS l) := by
 constructor
 ·intro h
  obtain ⟨_, vss, h1, h2, h3⟩ := h.tab (by decide)
  obtain ⟨k1, k2⟩ := rdLL_str h3
  rwa [k1, k2] at h1
 ·intro h
  exact .inl ⟨by decide, l.map fun s => [Value.string s], by rw [fl_str, List.length_map]; exact h, by simp, rdLL_of l⟩
theorem vS_len (l : List ByteArray) : (vS l).length = l.length := by simp [vS]
theorem vS_one (l : List ByteArray) : ∀ v ∈ vS l, v.oneCell' = true := fun v hv => by
 obtain ⟨s, _, rfl⟩ := List.mem_map.1 hv; rfl
/-- what stands after an insertion in place. -/
theorem ins_list {L A B R : List Value} {r0 t : Value} (hL : L = A ++ (B ++ r0 :: R)) : (updV (updV L (A.length + 1) B) A.length [t]).take (A.length + B.length + 1) = A ++ t :: B := by
 have hl : L.length = A.length + B.length + 1 + R.length := by rw [hL]; simp; omega
 apply List.ext_getElem?
 intro k
 simp only [updV, List.getElem?_take, List.getElem?_append, List.getElem?_drop, List.length_append, List.length_take, List.length_drop, List.length_singleton, hl]
 have e1 : min (A.length + 1) (A.length + B.length + 1 + R.length) = A.length + 1 := by omega
 have e2 : min A.length (A.length + 1 + B.length + (A.length + B.length + 1 + R.length - (A.length + 1 + B.length))) = A.length := by omega
 simp only [e1, e2]
 by_cases q1 : k < A.length
 ·rw [hL]
  simp [q1, show k < A.length + 1 by omega, show k < A.length + B.length + 1 by omega, show k < A.length + 1 + B.length by omega, List.getElem?_append]
 ·by_cases q2 : k = A.length
  ·subst q2
   simp
   omega
  ·by_cases q3 : k < A.length + B.length + 1
   ·obtain ⟨m, rfl⟩ : ∃ m, k = A.length + 1 + m := ⟨k - (A.length + 1), by omega⟩
    simp [q3, show ¬ A.length + 1 + m < A.length by omega, show A.length + 1 + m - A.length = m + 1 by omega, show ¬ A.length + 1 + (A.length + 1 + m - (A.length + 1)) < A.length + 1 by omega, show m < B.length by omega, show A.length + 1 + m - (A.length + 1) = m by omega, show ¬ m + 1 < 1 by omega, Nat.add_assoc]
    rw [if_pos (by omega), if_neg (by omega), show 1 + m = m + 1 by omega, List.getElem?_cons_succ]
    congr 1
    omega
   ·obtain ⟨m, rfl⟩ : ∃ m, k = A.length + B.length + 1 + m := ⟨k - (A.length + B.length + 1), by omega⟩
    rw [if_neg q3, if_neg (by omega), show A.length + B.length + 1 + m - A.length = (B.length + m) + 1 by omega, List.getElem?_cons_succ, List.getElem?_eq_none (by omega)]
theorem updV_at (A M R vs : List Value) (h : M.length = vs.length) : updV (A ++ (M ++ R)) A.length vs = A ++ (vs ++ R) := by
 unfold updV
 rw [List.take_left, ← h, ← List.drop_drop, List.drop_left, List.drop_left, List.append_assoc]
theorem insert_s (l : List ByteArray) (i : Nat) (t : ByteArray) (hi : i < l.length) (hl : l.length ≤ 1000000) : Turn2 Tryz.prog 122 9 1 (l.map eS) (.int .i64 (i : Int)) 9 1 [[.v (.string t)]] ((l.take i ++ t :: l.drop i).map eS) := by
 refine ⟨⟨_, Tryz.func122, rfl, rfl⟩, fun μ w base v u hb hv hu hne => ?_⟩
 have hu : RowOk μ base w u 9 1 ([t].map eS) := hu
 rw [rowOk_str] at hv hu
 obtain ⟨_, ⟨_, h0⟩ | ⟨ub, uc, ucur, rfl, ub1, ub2, ub3, ub4, ub5, ub6⟩⟩ := hu
 ·simp at h0
 obtain ⟨_, ⟨_, h0⟩ | ⟨b, c, cur, rfl, vb1, vb2, vb3, vb4, vb5, vb6⟩⟩ := hv
 ·omega
 simp only [Nat.mul_one] at vb5 vb6 ub5 ub6
 have hbu : ub ≠ b := fun h => hne b rfl (by rw [h]; rfl)
 have hvs : ∀ (j : Nat) (x : Value), (vS [t])[j]? = some x → w.cell? ⟨ub, 0 + j, none⟩ = some x := fun j x hj => by
  simp only [World.cell?, ub2, Nat.zero_add, Option.isSome_none, Bool.false_eq_true, if_false]
  rw [← ub6, List.getElem?_take] at hj
  split at hj
  ·simpa using hj
  ·cases hj
 have hcs : ∀ (j : Nat) (x : Value), (vS l)[j]? = some x → w.cell? ⟨b, 0 + j, none⟩ = some x := fun j x hj => by
  simp only [World.cell?, vb2, Nat.zero_add, Option.isSome_none, Bool.false_eq_true, if_false]
  rw [← vb6, List.getElem?_take] at hj
  split at hj
  ·simpa using hj
  ·cases hj
 have hA : (vS l).take i = vS (l.take i) := by simp [vS, List.map_take]
 have hB : (vS l).drop i = vS (l.drop i) := by simp [vS, List.map_drop]
 have hlen : (l.take i).length = i := by rw [List.length_take]; omega
 have hlen2 : (l.drop i).length = l.length - i := by simp
 have hres : vS (l.take i ++ t :: l.drop i) = vS (l.take i) ++ Value.string t :: vS (l.drop i) := by simp [vS]
 have hrl : (l.take i ++ t :: l.drop i).length = l.length + 1 := by simp; omega
 by_cases hroom : l.length + 1 ≤ c
 ·have hsp : ∀ j, j < l.length + 1 → (w.cell? ⟨b, 0 + j, none⟩).isSome = true := fun j hj => by
   simp only [World.cell?, vb2, Nat.zero_add, Option.isSome_none, Bool.false_eq_true, if_false]
   simp; omega
  have h := Any2.slices_Insert_string_shift laysIns b 0 l.length c i ub 0 1 uc (vS l) (vS [t]) w hi (by decide) hroom (by simp only [maxLen] at vb4; omega) hbu (vS_len l) rfl hcs hsp (fun j _ => by simp [World.frozen?, vb2]) hvs (vS_one l) (vS_one [t]) 9 9 uc c (by simp [World.shape?, ub2, ub5]) (by simp [World.shape?, vb2, vb5]) (by omega) (by simp [World.frozen?, ub2]) (by simp [World.frozen?, ub2])
  refine Calls.mono h ?_
  rintro en w' ⟨rfl, rfl⟩
  obtain ⟨c1, k1, k2⟩ := setCells_heap ((vS l).drop i) (0 + (i + 1)) w.drew cur (t := 9) (fz := (0, 0)) vb2 (by simp [vS]; omega)
  have k2l : c1.size = c := by rw [← Array.length_toList, k2, updV_len (by simp [vS]; omega)]; simp [vb5]
  obtain ⟨c2, k3, k4⟩ := setCells_heap (vS [t]) (0 + i) _ c1 k1 (by simp [vS]; omega)
  have k4l : c2.size = c := by rw [← Array.length_toList, k4, updV_len (by simp [vS]; omega)]; simp [k2l]
  obtain ⟨o1, o2, o3, o4⟩ := setCells_rest w.drew b (0 + (i + 1)) ((vS l).drop i)
  obtain ⟨p1, p2, p3, p4⟩ := setCells_rest (w.drew.setCells b (0 + (i + 1)) ((vS l).drop i)) b (0 + i) (vS [t])
  refine ⟨_, rfl, ?_, ⟨_, _, _, rfl⟩, ⟨p1.trans o1, p2.trans o2, p3.trans o3, by rw [p4, o4]; exact Nat.le_refl _, fun x hx hxb => ?_, fun x hx => .inl hx⟩⟩
  ·rw [rowOk_str]
   refine ⟨by rw [vS_len, Nat.mul_one], .inr ⟨b, c, c2, by rw [hrl], vb1, k3, by rw [hrl]; exact hroom, vb4, by rw [Nat.mul_one]; exact k4l, ?_⟩⟩
   obtain ⟨r0, R, hR⟩ : ∃ r0 R, cur.toList.drop l.length = r0 :: R := by
    cases hd : cur.toList.drop l.length with
    | nil => have := congrArg List.length hd; simp at this; omega
    | cons a b => exact ⟨a, b, rfl⟩
   have hcur : cur.toList = vS (l.take i) ++ (vS (l.drop i) ++ r0 :: R) := by
    rw [← List.append_assoc, ← hA, ← hB, List.take_append_drop, ← hR, ← vb6, List.take_append_drop]
   have := ins_list (t := Value.string t) hcur
   rw [vS_len, vS_len, hlen, hlen2] at this
   rw [k4, k2, hrl, Nat.mul_one, hres, hB, Nat.zero_add, Nat.zero_add, show l.length + 1 = i + (l.length - i) + 1 by omega]
   exact this
  ·rw [World.heap_setCells_other _ _ _ _ (by rw [o4]; exact hx) (fun e => hxb (by rw [e]; rfl))]
   exact World.heap_setCells_other w.drew b _ _ hx (fun e => hxb (by rw [e]; rfl))
 ·have h := Any2.slices_Insert_string_grow laysIns b 0 l.length c i ub 0 1 uc (vS l) (vS [t]) w hi (by decide) vb3 (by omega) (by omega) (vS_len l) rfl hcs hvs (vS_one l) (vS_one [t])
  refine Calls.mono h ?_
  generalize hZ1 : Builtin.zeroCells (Value.string ⟨#[]⟩).cells (l.length + 1 - i) = Z1
  generalize hZ2 : Builtin.zeroCells (Value.string ⟨#[]⟩).cells (grownCap w (l.length + 1) c (rIns.t 9) - (l.length + 1)) = Z2
  have hge := grownCap_ge w (l.length + 1) c (rIns.t 9)
  have hle := grownCap_le_maxLen w (l.length + 1) c (rIns.t 9) (by simp only [maxLen]; omega)
  have z1 : Z1.size = l.length + 1 - i := by rw [← hZ1, size_zeroCells]; simp [Value.cells]
  have z2 : Z2.size = grownCap w (l.length + 1) c (rIns.t 9) - (l.length + 1) := by rw [← hZ2, size_zeroCells]; simp [Value.cells]
  generalize grownCap w (l.length + 1) c (rIns.t 9) = C2 at hge hle z2 ⊢
  rintro en w' ⟨rfl, rfl⟩
  have hc0 : (((vS l).take i).toArray ++ Z1 ++ Z2).size = C2 := by simp [z1, z2, vS]; omega
  have hcl : (((vS l).take i).toArray ++ Z1 ++ Z2).toList.length = C2 := by rw [Array.length_toList]; exact hc0
  have hN := heap_alloc_new w (.cells (((vS l).take i).toArray ++ Z1 ++ Z2) 9)
  obtain ⟨c1, k1, k2⟩ := setCells_heap (vS [t]) i (w.alloc (.cells (((vS l).take i).toArray ++ Z1 ++ Z2) 9)).drew _ (t := 9) (fz := (0, 0)) hN (by rw [hc0]; simp [vS]; omega)
  have k2l : c1.size = C2 := by rw [← Array.length_toList, k2, updV_len (by rw [hcl]; simp [vS]; omega), hcl]
  obtain ⟨c2, k3, k4⟩ := setCells_heap ((vS l).drop i) (i + 1) ((w.alloc (.cells (((vS l).take i).toArray ++ Z1 ++ Z2) 9)).drew.setCells w.heap.size i (vS [t])).drew c1 k1 (by rw [k2l]; simp [vS]; omega)
  have k4l : c2.size = C2 := by rw [← Array.length_toList, k4, updV_len (by rw [show c1.toList.length = C2 by rw [Array.length_toList]; exact k2l]; simp [vS]; omega), Array.length_toList, k2l]
  obtain ⟨o1, o2, o3, o4⟩ := setCells_rest (w.alloc (.cells (((vS l).take i).toArray ++ Z1 ++ Z2) 9)).drew w.heap.size i (vS [t])
  obtain ⟨p1, p2, p3, p4⟩ := setCells_rest ((w.alloc (.cells (((vS l).take i).toArray ++ Z1 ++ Z2) 9)).drew.setCells w.heap.size i (vS [t])).drew w.heap.size (i + 1) ((vS l).drop i)
  have hBel : Below w.heap.size w (w.alloc (.cells (((vS l).take i).toArray ++ Z1 ++ Z2) 9)) := (Below.refl _ _).alloc (Nat.le_refl _) _
  refine ⟨_, rfl, ?_, ⟨_, _, _, rfl⟩, ⟨p1.trans (o1.trans hBel.os), p2.trans (o2.trans hBel.tape), p3.trans (o3.trans hBel.output), ?_, fun x hx hxb => ?_, fun x hx => .inr ?_⟩⟩
  ·rw [rowOk_str]
   refine ⟨by rw [vS_len, Nat.mul_one], .inr ⟨w.heap.size, C2, c2, by rw [hrl], hb, k3, by rw [hrl]; exact hge, hle, by rw [Nat.mul_one]; exact k4l, ?_⟩⟩
   rw [k4, k2, hrl, Nat.mul_one, hres, hB]
   have hZ : (Z1 ++ Z2).toList = Z1.toList.take 1 ++ (Z1.toList.drop 1 ++ Z2.toList) := by
    rw [Array.toList_append, ← List.append_assoc, List.take_append_drop]
   have e1 : (((vS l).take i).toArray ++ Z1 ++ Z2).toList = vS (l.take i) ++ (Z1.toList.take 1 ++ (Z1.toList.drop 1 ++ Z2.toList)) := by
    rw [Array.append_assoc, Array.toList_append, hZ, hA]
   have hz11 : (Z1.toList.take 1).length = (vS [t]).length := by simp [vS, z1]; omega
   have hi2 : i = (vS (l.take i)).length := by rw [vS_len, hlen]
   have e2 : updV (((vS l).take i).toArray ++ Z1 ++ Z2).toList i (vS [t]) = (vS (l.take i) ++ vS [t]) ++ (Z1.toList.drop 1 ++ Z2.toList) := by
    rw [e1]
    conv => lhs; arg 2; rw [hi2]
    rw [updV_at _ _ _ _ hz11, List.append_assoc]
   rw [e2]
   have e3 : updV ((vS (l.take i) ++ vS [t]) ++ (Z1.toList.drop 1 ++ Z2.toList)) (i + 1) (vS (l.drop i)) = (vS (l.take i) ++ vS [t]) ++ (vS (l.drop i) ++ Z2.toList) := by
    have := updV_at (vS (l.take i) ++ vS [t]) (Z1.toList.drop 1) Z2.toList (vS (l.drop i)) (by rw [vS_len, hlen2]; simp [z1]; omega)
    rwa [show (vS (l.take i) ++ vS [t]).length = i + 1 by rw [List.length_append, vS_len, hlen]; rfl] at this
   rw [e3, ← List.append_assoc, List.take_left' (by simp [vS]; omega)]
   simp [vS]
  ·exact Nat.le_trans (Nat.le_trans hBel.size (Nat.le_of_eq o4.symm)) (Nat.le_of_eq p4.symm)
  ·have q1 : x < ((w.alloc (.cells (((vS l).take i).toArray ++ Z1 ++ Z2) 9)).drew.setCells w.heap.size i (vS [t])).drew.heap.size := Nat.lt_of_lt_of_le (Nat.lt_of_lt_of_le hx hBel.size) (Nat.le_of_eq o4.symm)
   have q2 := World.heap_setCells_other ((w.alloc (.cells (((vS l).take i).toArray ++ Z1 ++ Z2) 9)).drew.setCells w.heap.size i (vS [t])).drew w.heap.size (i + 1) ((vS l).drop i) q1 (by omega)
   have q3 := World.heap_setCells_other (w.alloc (.cells (((vS l).take i).toArray ++ Z1 ++ Z2) 9)).drew w.heap.size i (vS [t]) (Nat.lt_of_lt_of_le hx hBel.size) (by omega)
   exact q2.trans (q3.trans (hBel.block x hx))
  ·simp only [ob, Value.ownBlock, Option.some.injEq] at hx
   omega
end Go.Proofs.YtgcmppghjfidfaaGreatDoor
/-
 Chapter 8, walks: marks are right.
-/
namespace Go.Proofs.YtgcmppghjfidfaaGreatDoor
open Go Go.Vx
set_option maxRecDepth 20000
def inR (m : Mk) : Bool := decide (0 ≤ m.part ∧ m.part ≤ 59) && decide (0 ≤ m.word ∧ m.word ≤ 100)
theorem inRange_s (m : Mk) : Ctr Tryz.prog 100 [mV m] (fun rr => rr = ⟨(.v (.bool (inR m))), []⟩) := by
 refine Ctr.of (rs := [.tmp 2]) Tok true Tryz.func100 rfl rfl rfl rfl (by simp [ofDL]) (fun w0 kp => ?_)
 simp only [↓sx0, xE, sevalprocAttr]
 refine CallI.fn (within_s m.part 0 59) (by simp only [sx3, xR, sevalprocAttr] <;> (try simp) <;> (try rfl)) ?_
 simp only [↓sx0, xE, sevalprocAttr]
 refine BrW.of (fun h => ?_) (fun h => ?_)
 ·simp only [↓sx0, xE, sevalprocAttr]
  refine CallI.fn (within_s m.word 0 100) (by simp only [sx3, xR, sevalprocAttr] <;> (try simp) <;> (try rfl)) ?_
  simp only [↓sx0, xE, sevalprocAttr]
  have : inR m = decide (0 ≤ m.word ∧ m.word ≤ 100) := by rw [inR, h, Bool.true_and]
  refine EndW.fn ?_ ?_ <;> simp only [sx4, xK, sevalprocAttr] <;> (try simp [this]) <;> (try omega)
 ·simp only [↓sx0, xE, sevalprocAttr]
  have : inR m = false := by rw [inR, h, Bool.false_and]
  refine EndW.fn ?_ ?_ <;> simp only [sx4, xK, sevalprocAttr] <;> (try simp [this]) <;> (try omega)
def ptsB (m : Mk) : Bool := decide (m.mark = 5) || decide (m.mark = 6)
theorem parts_s (m : Mk) : Ctr Tryz.prog 103 [mV m] (fun rr => rr = ⟨(.v (.bool (ptsB m))), []⟩) := by
 refine Ctr.of (rs := [.tmp 2]) Tok true Tryz.func103 rfl rfl rfl rfl (by simp [ofDL]) (fun w0 kp => ?_)
 simp only [↓sx0, xE, sevalprocAttr]
 refine BrW.dec (fun h => ?_) (fun h => ?_)
 ·simp only [↓sx0, xE, sevalprocAttr]
  have : ptsB m = true := by simp [ptsB, h]
  refine EndW.fn ?_ ?_ <;> simp only [sx4, xK, sevalprocAttr] <;> (try simp [this]) <;> (try omega)
 ·simp only [↓sx0, xE, sevalprocAttr]
  have : ptsB m = decide (m.mark = 6) := by simp [ptsB, h]
  refine EndW.fn ?_ ?_ <;> simp only [sx4, xK, sevalprocAttr] <;> (try simp [this]) <;> (try omega)
theorem toldBy_s (m : Mk) : Ctr Tryz.prog 101 [mV m] (fun rr => rr = ⟨.agg [(.v (.string (m.old))), (.v (.string (m.new))), (.v (.int .i64 m.was)), (.v (.int .i64 m.kind))], []⟩) := by
 refine Ctr.of (rs := [.cell 2 179]) Tok true Tryz.func101 rfl rfl rfl rfl (by simp [ofDL]) (fun w0 kp => ?_)
 simp only [↓sx0, xE, sevalprocAttr]
 refine EndW.fn ?_ ?_ <;> simp only [sx4, xK, sevalprocAttr] <;> (try simp) <;> (try omega)
def em : ByteArray := ⟨#[]⟩
def wantB (mark : Int) (o n : ByteArray) (w k : Int) : Bool :=
 if mark = 1 then isWd o && decide (n = em ∧ w = 0 ∧ k = 0)
 else if mark = 2 then isWd n && decide (o = em ∧ w = 0 ∧ k = 0)
 else if mark = 3 then (isWd o && isWd n && decide (o ≠ n)) && decide (w = 0 ∧ k = 0)
 else if mark = 5 ∨ mark = 6 then decide (1 ≤ k ∧ k ≤ 3) && decide (o = em ∧ n = em ∧ w = 0)
 else if mark = 7 then (decide (1 ≤ w ∧ w ≤ 3) && decide (1 ≤ k ∧ k ≤ 3) && decide (w ≠ k)) && decide (o = em ∧ n = em)
 else decide (o = em ∧ n = em ∧ w = 0 ∧ k = 0)
set_option maxHeartbeats 4000000 in
theorem fits_s (mark : Int) (o n : ByteArray) (w k : Int) (ho : o.size ≤ 1000000000) (hn : n.size ≤ 1000000000) : Ctr Tryz.prog 102 [.agg [(.v (.string (o))), (.v (.string (n))), (.v (.int .i64 w)), (.v (.int .i64 k))], (.v (.int .i64 mark))] (fun rr => rr = ⟨(.v (.bool (wantB mark o n w k))), []⟩) := by
 refine Ctr.of (rs := [.tmp 4]) Tok true Tryz.func102 rfl rfl rfl rfl (by simp [ofDL]) (fun w0 kp => ?_)
 simp only [↓sx0, xE, sevalprocAttr]
 refine BrW.dec (fun h1 => ?_) (fun h1 => ?_)
 ·have hw : wantB mark o n w k = (isWd o && decide (n = em ∧ w = 0 ∧ k = 0)) := by rw [wantB, if_pos h1]
  rw [hw]
  simp only [↓sx0, xE, sevalprocAttr]
  refine DrawW.plan Tok mixed (.q 0 <| .q 1 <| .q 2 <| .q 3 <| .q 5 <| .e 4 [1] <| .e 6 [] <| .q 7 <| .done) (by kernel_rfl) (by kernel_rfl) ?_
  simp only [↓sx0, xE, sevalprocAttr]
  refine CallI.fn (isWord_s o ho) (by simp only [sx3, xR, sevalprocAttr] <;> (try simp) <;> (try rfl)) ?_
  simp only [↓sx0, xE, sevalprocAttr]
  refine BrW.of (fun hb => ?_) (fun hb => ?_)
  ·simp only [↓sx0, xE, sevalprocAttr]
   rw [show (isWd o && decide (n = em ∧ w = 0 ∧ k = 0)) = decide ([Sc.s o, Sc.s n, Sc.i w, Sc.i k] = [Sc.s o, Sc.s ⟨#[]⟩, Sc.i 0, Sc.i 0]) by rw [hb, Bool.eq_iff_iff]; simp [em]; exact decide_eq_true_iff]
   refine EndW.fn ?_ ?_ <;> simp only [sx4, xK, sevalprocAttr] <;> (try simp) <;> (try omega)
  ·simp only [↓sx0, xE, sevalprocAttr]
   rw [hb]
   refine EndW.fn ?_ ?_ <;> simp only [sx4, xK, sevalprocAttr] <;> (try simp) <;> (try omega)
 ·simp only [↓sx0, xE, sevalprocAttr]
  refine BrW.dec (fun h2 => ?_) (fun h2 => ?_)
  ·have hw : wantB mark o n w k = (isWd n && decide (o = em ∧ w = 0 ∧ k = 0)) := by rw [wantB, if_neg h1, if_pos h2]
   rw [hw]
   simp only [↓sx0, xE, sevalprocAttr]
   refine DrawW.plan Tok mixed (.q 0 <| .q 1 <| .q 2 <| .q 3 <| .q 5 <| .e 4 [1] <| .e 6 [] <| .q 7 <| .done) (by kernel_rfl) (by kernel_rfl) ?_
   simp only [↓sx0, xE, sevalprocAttr]
   refine CallI.fn (isWord_s n hn) (by simp only [sx3, xR, sevalprocAttr] <;> (try simp) <;> (try rfl)) ?_
   simp only [↓sx0, xE, sevalprocAttr]
   refine BrW.of (fun hb => ?_) (fun hb => ?_)
   ·simp only [↓sx0, xE, sevalprocAttr]
    rw [show (isWd n && decide (o = em ∧ w = 0 ∧ k = 0)) = decide ([Sc.s o, Sc.s n, Sc.i w, Sc.i k] = [Sc.s ⟨#[]⟩, Sc.s n, Sc.i 0, Sc.i 0]) by rw [hb, Bool.eq_iff_iff]; simp [em]; exact decide_eq_true_iff]
    refine EndW.fn ?_ ?_ <;> simp only [sx4, xK, sevalprocAttr] <;> (try simp) <;> (try omega)
   ·simp only [↓sx0, xE, sevalprocAttr]
    rw [hb]
    refine EndW.fn ?_ ?_ <;> simp only [sx4, xK, sevalprocAttr] <;> (try simp) <;> (try omega)
  ·simp only [↓sx0, xE, sevalprocAttr]
   refine BrW.dec (fun h3 => ?_) (fun h3 => ?_)
   ·have hw : wantB mark o n w k = ((isWd o && isWd n && decide (o ≠ n)) && decide (w = 0 ∧ k = 0)) := by rw [wantB, if_neg h1, if_neg h2, if_pos h3]
    rw [hw]
    simp only [↓sx0, xE, sevalprocAttr]
    refine DrawW.plan Tok mixed (.q 0 <| .q 1 <| .q 2 <| .q 3 <| .q 4 <| .q 5 <| .q 19 <| .e 6 [1, 3] <| .q 7 <| .q 8 <| .q 9 <| .e 10 [1, 3] <| .q 11 <| .q 12 <| .q 13 <| .q 14 <| .q 15 <| .q 16 <| .q 17 <| .q 18 <| .e 20 [3, 14, 16] <| .q 21 <| .e 22 [14, 16] <| .q 23 <| .done) (by kernel_rfl) (by kernel_rfl) ?_
    simp only [↓sx0, xE, sevalprocAttr]
    refine CallI.fn (isWord_s o ho) (by simp only [sx3, xR, sevalprocAttr] <;> (try simp) <;> (try rfl)) ?_
    simp only [↓sx0, xE, sevalprocAttr]
    refine BrW.of (fun hb => ?_) (fun hb => ?_)
    ·simp only [↓sx0, xE, sevalprocAttr]
     repeat ((with_reducible refine BrW.tt hb ?_); simp only [↓sx0, xE, sevalprocAttr])
     refine CallI.fn (isWord_s n hn) (by simp only [sx3, xR, sevalprocAttr] <;> (try simp) <;> (try rfl)) ?_
     simp only [↓sx0, xE, sevalprocAttr]
     refine BrW.of (fun hc => ?_) (fun hc => ?_)
     ·simp only [↓sx0, xE, sevalprocAttr]
      repeat ((with_reducible refine BrW.tt hc ?_); simp only [↓sx0, xE, sevalprocAttr])
      refine BrW.dec (fun hd => ?_) (fun hd => ?_)
      ·simp only [↓sx0, xE, sevalprocAttr]
       rw [show ((isWd o && isWd n && decide (o ≠ n)) && decide (w = 0 ∧ k = 0)) = decide ([Sc.s o, Sc.s n, Sc.i w, Sc.i k] = [Sc.s o, Sc.s n, Sc.i 0, Sc.i 0]) by rw [hb, hc, decide_eq_true hd]; simp]
       refine EndW.fn ?_ ?_ <;> simp only [sx4, xK, sevalprocAttr] <;> (try simp) <;> (try omega)
      ·simp only [↓sx0, xE, sevalprocAttr]
       rw [hb, hc, decide_eq_false hd]
       refine EndW.fn ?_ ?_ <;> simp only [sx4, xK, sevalprocAttr] <;> (try simp) <;> (try omega)
     ·simp only [↓sx0, xE, sevalprocAttr]
      repeat ((with_reducible refine BrW.ff hc ?_); simp only [↓sx0, xE, sevalprocAttr])
      rw [hb, hc]
      refine EndW.fn ?_ ?_ <;> simp only [sx4, xK, sevalprocAttr] <;> (try simp) <;> (try omega)
    ·simp only [↓sx0, xE, sevalprocAttr]
     repeat ((with_reducible refine BrW.ff hb ?_); simp only [↓sx0, xE, sevalprocAttr])
     rw [hb]
     refine EndW.fn ?_ ?_ <;> simp only [sx4, xK, sevalprocAttr] <;> (try simp) <;> (try omega)
   ·simp only [↓sx0, xE, sevalprocAttr]
    have bj : mark = 5 ∨ mark = 6 → wantB mark o n w k = (decide (1 ≤ k ∧ k ≤ 3) && decide (o = em ∧ n = em ∧ w = 0)) := fun h => by rw [wantB, if_neg h1, if_neg h2, if_neg h3, if_pos h]
    refine BrW.dec (fun h5 => ?_) (fun h5 => ?_)
    ·rw [bj (.inl h5)]
     simp only [↓sx0, xE, sevalprocAttr]
     refine BrW.yes h5 ?_
     simp only [↓sx0, xE, sevalprocAttr]
     refine DrawW.plan Tok mixed (.q 0 <| .q 1 <| .q 2 <| .q 3 <| .q 5 <| .e 4 [1] <| .e 6 [] <| .q 7 <| .done) (by kernel_rfl) (by kernel_rfl) ?_
     simp only [↓sx0, xE, sevalprocAttr]
     refine CallI.fn (isKind_s k) (by simp only [sx3, xR, sevalprocAttr] <;> (try simp) <;> (try rfl)) ?_
     simp only [↓sx0, xE, sevalprocAttr]
     refine BrW.of (fun hb => ?_) (fun hb => ?_)
     ·simp only [↓sx0, xE, sevalprocAttr]
      rw [show (decide (1 ≤ k ∧ k ≤ 3) && decide (o = em ∧ n = em ∧ w = 0)) = decide ([Sc.s o, Sc.s n, Sc.i w, Sc.i k] = [Sc.s ⟨#[]⟩, Sc.s ⟨#[]⟩, Sc.i 0, Sc.i k]) by rw [hb, Bool.eq_iff_iff]; simp [em]; exact decide_eq_true_iff]
      refine EndW.fn ?_ ?_ <;> simp only [sx4, xK, sevalprocAttr] <;> (try simp) <;> (try omega)
     ·simp only [↓sx0, xE, sevalprocAttr]
      rw [hb]
      refine EndW.fn ?_ ?_ <;> simp only [sx4, xK, sevalprocAttr] <;> (try simp) <;> (try omega)
    ·simp only [↓sx0, xE, sevalprocAttr]
     refine BrW.dec (fun h6 => ?_) (fun h6 => ?_)
     ·rw [bj (.inr h6)]
      simp only [↓sx0, xE, sevalprocAttr]
      refine DrawW.plan Tok mixed (.q 0 <| .q 1 <| .q 2 <| .q 3 <| .q 5 <| .e 4 [1] <| .e 6 [] <| .q 7 <| .done) (by kernel_rfl) (by kernel_rfl) ?_
      simp only [↓sx0, xE, sevalprocAttr]
      refine CallI.fn (isKind_s k) (by simp only [sx3, xR, sevalprocAttr] <;> (try simp) <;> (try rfl)) ?_
      simp only [↓sx0, xE, sevalprocAttr]
      refine BrW.of (fun hb => ?_) (fun hb => ?_)
      ·simp only [↓sx0, xE, sevalprocAttr]
       rw [show (decide (1 ≤ k ∧ k ≤ 3) && decide (o = em ∧ n = em ∧ w = 0)) = decide ([Sc.s o, Sc.s n, Sc.i w, Sc.i k] = [Sc.s ⟨#[]⟩, Sc.s ⟨#[]⟩, Sc.i 0, Sc.i k]) by rw [hb, Bool.eq_iff_iff]; simp [em]; exact decide_eq_true_iff]
       refine EndW.fn ?_ ?_ <;> simp only [sx4, xK, sevalprocAttr] <;> (try simp) <;> (try omega)
      ·simp only [↓sx0, xE, sevalprocAttr]
       rw [hb]
       refine EndW.fn ?_ ?_ <;> simp only [sx4, xK, sevalprocAttr] <;> (try simp) <;> (try omega)
     ·simp only [↓sx0, xE, sevalprocAttr]
      have h56 : ¬ (mark = 5 ∨ mark = 6) := fun h => h.elim h5 h6
      refine BrW.dec (fun h7 => ?_) (fun h7 => ?_)
      ·have hw : wantB mark o n w k = ((decide (1 ≤ w ∧ w ≤ 3) && decide (1 ≤ k ∧ k ≤ 3) && decide (w ≠ k)) && decide (o = em ∧ n = em)) := by rw [wantB, if_neg h1, if_neg h2, if_neg h3, if_neg h56, if_pos h7]
       rw [hw]
       simp only [↓sx0, xE, sevalprocAttr]
       refine DrawW.plan Tok mixed (.q 0 <| .q 1 <| .q 2 <| .q 3 <| .q 4 <| .q 5 <| .q 19 <| .e 6 [1, 3] <| .q 7 <| .q 8 <| .q 9 <| .e 10 [1, 3] <| .q 11 <| .q 12 <| .q 13 <| .q 14 <| .q 15 <| .q 16 <| .q 17 <| .q 18 <| .e 20 [3, 14, 16] <| .q 21 <| .e 22 [14, 16] <| .q 23 <| .done) (by kernel_rfl) (by kernel_rfl) ?_
       simp only [↓sx0, xE, sevalprocAttr]
       refine CallI.fn (isKind_s w) (by simp only [sx3, xR, sevalprocAttr] <;> (try simp) <;> (try rfl)) ?_
       simp only [↓sx0, xE, sevalprocAttr]
       refine BrW.of (fun hb => ?_) (fun hb => ?_)
       ·simp only [↓sx0, xE, sevalprocAttr]
        repeat ((with_reducible refine BrW.tt hb ?_); simp only [↓sx0, xE, sevalprocAttr])
        refine CallI.fn (isKind_s k) (by simp only [sx3, xR, sevalprocAttr] <;> (try simp) <;> (try rfl)) ?_
        simp only [↓sx0, xE, sevalprocAttr]
        refine BrW.of (fun hc => ?_) (fun hc => ?_)
        ·simp only [↓sx0, xE, sevalprocAttr]
         repeat ((with_reducible refine BrW.tt hc ?_); simp only [↓sx0, xE, sevalprocAttr])
         refine BrW.dec (fun hd => ?_) (fun hd => ?_)
         ·simp only [↓sx0, xE, sevalprocAttr]
          rw [show ((decide (1 ≤ w ∧ w ≤ 3) && decide (1 ≤ k ∧ k ≤ 3) && decide (w ≠ k)) && decide (o = em ∧ n = em)) = decide ([Sc.s o, Sc.s n, Sc.i w, Sc.i k] = [Sc.s ⟨#[]⟩, Sc.s ⟨#[]⟩, Sc.i w, Sc.i k]) by rw [hb, hc, decide_eq_true hd, Bool.eq_iff_iff]; simp [em]; exact decide_eq_true_iff]
          refine EndW.fn ?_ ?_ <;> simp only [sx4, xK, sevalprocAttr] <;> (try simp) <;> (try omega)
         ·simp only [↓sx0, xE, sevalprocAttr]
          rw [hb, hc, decide_eq_false hd]
          refine EndW.fn ?_ ?_ <;> simp only [sx4, xK, sevalprocAttr] <;> (try simp) <;> (try omega)
        ·simp only [↓sx0, xE, sevalprocAttr]
         repeat ((with_reducible refine BrW.ff hc ?_); simp only [↓sx0, xE, sevalprocAttr])
         rw [hb, hc]
         refine EndW.fn ?_ ?_ <;> simp only [sx4, xK, sevalprocAttr] <;> (try simp) <;> (try omega)
       ·simp only [↓sx0, xE, sevalprocAttr]
        repeat ((with_reducible refine BrW.ff hb ?_); simp only [↓sx0, xE, sevalprocAttr])
        rw [hb]
        refine EndW.fn ?_ ?_ <;> simp only [sx4, xK, sevalprocAttr] <;> (try simp) <;> (try omega)
      ·have hw : wantB mark o n w k = decide ([Sc.s o, Sc.s n, Sc.i w, Sc.i k] = [Sc.s ⟨#[]⟩, Sc.s ⟨#[]⟩, Sc.i 0, Sc.i 0]) := by
        rw [wantB, if_neg h1, if_neg h2, if_neg h3, if_neg h56, if_neg h7, Bool.eq_iff_iff]; simp [em]; exact decide_eq_true_iff
       rw [hw]
       simp only [↓sx0, xE, sevalprocAttr]
       refine EndW.fn ?_ ?_ <;> simp only [sx4, xK, sevalprocAttr] <;> (try simp) <;> (try omega)
/-- the error of a mark. -/
def mkErr (m : Mk) : Int :=
 if 1 ≤ m.mark ∧ m.mark ≤ 7 then (if inR m = true then (if wantB m.mark m.old m.new m.was m.kind = true ∧ ¬ (ptsB m = true ∧ m.word = 0) ∧ ¬ (m.mark = 7 ∧ m.word ≠ 0) then 0 else 3) else 2) else 15
def MkSz (m : Mk) : Prop := m.old.size ≤ 1000000000 ∧ m.new.size ≤ 1000000000
set_option maxHeartbeats 4000000 in
theorem checkMark_s (m : Mk) (hz : MkSz m) : Ctr Tryz.prog 66 [mV m] (fun rr => rr = ⟨(.v (.int .i64 (mkErr m))), []⟩) := by
 refine Ctr.of (rs := [.tmp 2]) Tok true Tryz.func66 rfl rfl rfl rfl (by simp [ofDL]) (fun w0 kp => ?_)
 simp only [↓sx0, xE, sevalprocAttr]
 refine CallI.fn (within_s m.mark 1 7) (by simp only [sx3, xR, sevalprocAttr] <;> (try simp) <;> (try rfl)) ?_
 simp only [↓sx0, xE, sevalprocAttr]
 refine BrW.of (fun hk => ?_) (fun hk => ?_)
 ·have hk : 1 ≤ m.mark ∧ m.mark ≤ 7 := by simpa using hk
  simp only [↓sx0, xE, sevalprocAttr]
  refine CallI.fn (inRange_s m) (by simp only [sx3, xR, sevalprocAttr] <;> (try simp) <;> (try rfl)) ?_
  simp only [↓sx0, xE, sevalprocAttr]
  refine BrW.of (fun hr => ?_) (fun hr => ?_)
  ·have he : mkErr m = if wantB m.mark m.old m.new m.was m.kind = true ∧ ¬ (ptsB m = true ∧ m.word = 0) ∧ ¬ (m.mark = 7 ∧ m.word ≠ 0) then 0 else 3 := by rw [mkErr, if_pos hk, if_pos hr]
   rw [he]
   simp only [↓sx0, xE, sevalprocAttr]
   refine DrawW.plan Tok mixed (.q 0 <| .q 2 <| .q 3 <| .e 1 [3] <| .e 4 [] <| .q 5 <| .q 6 <| .q 7 <| .e 8 [] <| .q 9 <| .q 10 <| .q 11 <| .q 12 <| .q 13 <| .q 14 <| .q 15 <| .q 16 <| .q 17 <| .q 18 <| .q 19 <| .q 20 <| .q 21 <| .q 22 <| .q 23 <| .q 24 <| .q 25 <| .done) (by kernel_rfl) (by kernel_rfl) ?_
   simp only [↓sx0, xE, sevalprocAttr]
   refine CallI.fn (toldBy_s m) (by simp only [sx3, xR, sevalprocAttr] <;> (try simp) <;> (try rfl)) ?_
   simp only [↓sx0, xE, sevalprocAttr]
   refine CallI.fn (fits_s m.mark m.old m.new m.was m.kind hz.1 hz.2) (by simp only [sx3, xR, sevalprocAttr] <;> (try simp) <;> (try rfl)) ?_
   simp only [↓sx0, xE, sevalprocAttr]
   refine BrW.of (fun hf => ?_) (fun hf => ?_)
   ·simp only [↓sx0, xE, sevalprocAttr]
    repeat ((with_reducible refine BrW.tt hf ?_); simp only [↓sx0, xE, sevalprocAttr])
    refine CallI.fn (parts_s m) (by simp only [sx3, xR, sevalprocAttr] <;> (try simp) <;> (try rfl)) ?_
    simp only [↓sx0, xE, sevalprocAttr]
    refine BrW.of (fun hp => ?_) (fun hp => ?_)
    ·simp only [↓sx0, xE, sevalprocAttr]
     have h7 : ¬ m.mark = 7 := fun h => by rw [ptsB, h] at hp; simp at hp
     repeat ((with_reducible refine BrW.tt hp ?_); simp only [↓sx0, xE, sevalprocAttr])
     refine BrW.dec (fun hw0 => ?_) (fun hw0 => ?_)
     ·simp only [↓sx0, xE, sevalprocAttr]
      repeat ((with_reducible refine BrW.yes hw0 ?_); simp only [↓sx0, xE, sevalprocAttr])
      rw [if_neg fun h => h.2.1 ⟨hp, hw0⟩]
      refine EndW.fn ?_ ?_ <;> simp only [sx4, xK, sevalprocAttr] <;> (try simp) <;> (try omega)
     ·simp only [↓sx0, xE, sevalprocAttr]
      repeat ((with_reducible refine BrW.no hw0 ?_); simp only [↓sx0, xE, sevalprocAttr])
      repeat ((with_reducible refine BrW.no h7 ?_); simp only [↓sx0, xE, sevalprocAttr])
      rw [if_pos ⟨hf, fun h => hw0 h.2, fun h => h7 h.1⟩]
      refine EndW.fn ?_ ?_ <;> simp only [sx4, xK, sevalprocAttr] <;> (try simp) <;> (try omega)
    ·simp only [↓sx0, xE, sevalprocAttr]
     repeat ((with_reducible refine BrW.ff hp ?_); simp only [↓sx0, xE, sevalprocAttr])
     refine BrW.dec (fun h7 => ?_) (fun h7 => ?_)
     ·simp only [↓sx0, xE, sevalprocAttr]
      repeat ((with_reducible refine BrW.yes h7 ?_); simp only [↓sx0, xE, sevalprocAttr])
      refine BrW.dec (fun hw0 => ?_) (fun hw0 => ?_)
      ·simp only [↓sx0, xE, sevalprocAttr]
       rw [if_neg fun h => h.2.2 ⟨h7, hw0⟩]
       refine EndW.fn ?_ ?_ <;> simp only [sx4, xK, sevalprocAttr] <;> (try simp) <;> (try omega)
      ·simp only [↓sx0, xE, sevalprocAttr]
       rw [if_pos ⟨hf, fun h => by rw [hp] at h; simp at h, fun h => hw0 h.2⟩]
       refine EndW.fn ?_ ?_ <;> simp only [sx4, xK, sevalprocAttr] <;> (try simp) <;> (try omega)
     ·simp only [↓sx0, xE, sevalprocAttr]
      repeat ((with_reducible refine BrW.no h7 ?_); simp only [↓sx0, xE, sevalprocAttr])
      rw [if_pos ⟨hf, fun h => by rw [hp] at h; simp at h, fun h => h7 h.1⟩]
      refine EndW.fn ?_ ?_ <;> simp only [sx4, xK, sevalprocAttr] <;> (try simp) <;> (try omega)
   ·simp only [↓sx0, xE, sevalprocAttr]
    repeat ((with_reducible refine BrW.ff hf ?_); simp only [↓sx0, xE, sevalprocAttr])
    rw [if_neg (by rw [hf]; simp)]
    refine EndW.fn ?_ ?_ <;> simp only [sx4, xK, sevalprocAttr] <;> (try simp) <;> (try omega)
  ·simp only [↓sx0, xE, sevalprocAttr]
   rw [show mkErr m = 2 by rw [mkErr, if_pos hk, if_neg (by simp [hr])]]
   refine EndW.fn ?_ ?_ <;> simp only [sx4, xK, sevalprocAttr] <;> (try simp) <;> (try omega)
 ·have hk : ¬ (1 ≤ m.mark ∧ m.mark ≤ 7) := by simpa using hk
  simp only [↓sx0, xE, sevalprocAttr]
  rw [show mkErr m = 15 by rw [mkErr, if_neg hk]]
  refine EndW.fn ?_ ?_ <;> simp only [sx4, xK, sevalprocAttr] <;> (try simp) <;> (try omega)
end Go.Proofs.YtgcmppghjfidfaaGreatDoor
/-
 Chapter 8, walks: a word that comes in.
-/
namespace Go.Proofs.YtgcmppghjfidfaaGreatDoor
open Go Go.Vx
set_option maxRecDepth 20000
def insP (p : Pt) (k : Nat) (t : ByteArray) : Pt := ⟨p.kind, p.words.take k ++ t :: p.words.drop k⟩
theorem elsA_get {l : List Pt} {i : Nat} (hi : i < l.length) (u : Value) : (elsA l i u)[i]? = some [.v (.int .i64 l[i].kind), .v u] := by
 unfold elsA
 have hgd : l.getD i ⟨0, []⟩ = l[i] := by simp [List.getD_eq_getElem?_getD, hi]
 rw [hgd, List.getElem?_set_self (by simpa using hi)]
theorem elsA_put {l : List Pt} {i : Nat} (hi : i < l.length) (u : Value) (p : Pt) (hk : p.kind = l[i].kind) : ((elsA l i u).modify i fun x => modE x 1 [.sl true 1 (p.words.map eS)]) = (l.set i p).map (eP true) := by
 apply List.ext_getElem?
 intro k
 rw [List.getElem?_modify]
 by_cases h : i = k
 ·subst h
  rw [elsA_get hi]
  simp [modE, eP, hk, hi]
 ·unfold elsA
  simp [h]
theorem elsA_len (l : List Pt) (i : Nat) (u : Value) : (elsA l i u).length = l.length := by simp [elsA]
theorem mapE : (∀ k v, upE k v [] = [[.v k, .v v]]) ∧ (∀ key val k v l, upE key val ([.v k, .v v] :: l) = if kEq key k = true then [.v key, .v val] :: l else [.v k, .v v] :: upE key val l) ∧ (∀ a b, kEq (.int .i64 a) (.int .i64 b) = decide (a = b)) ∧ (entsOk (some .i64) [] = true) ∧
  (∀ k v l, entsOk (some .i64) ([.v (.int .i64 k), .v v] :: l) = entsOk (some .i64) l) ∧ (∀ key, lkE key [] = none) ∧ (∀ key k v l, lkE key ([.v k, .v v] :: l) = if kEq key k = true then some v else lkE key l) ∧ (∀ z v, lkV false z (some v) = .v v) ∧ (∀ z, lkV false z none = .v z) ∧ (∀ v z : Value, (some v).getD z = v) ∧ (∀ z : Value, (none : Option Value).getD z = z) := by
 refine ⟨fun _ _ => rfl, fun _ _ _ _ _ => rfl, fun a b => ?_, rfl, fun k v l => ?_, fun _ => rfl, fun _ _ _ _ => rfl, fun _ _ => rfl, fun _ => rfl, fun _ _ => rfl, fun _ => rfl⟩
 ·rw [Bool.eq_iff_iff]; simp [kEq]
 ·simp [entsOk, entOk, keyIs]
end Go.Proofs.YtgcmppghjfidfaaGreatDoor
/-
 Chapter 8, walks: lists of words.
-/
namespace Go.Proofs.YtgcmppghjfidfaaGreatDoor
open Go Go.Vx
set_option maxRecDepth 20000
theorem take_eq_succ {α : Type} {l m : List α} {k : Nat} (h1 : k < l.length) (h2 : k < m.length) (h : l.take k = m.take k) (e : l[k] = m[k]) : l.take (k + 1) = m.take (k + 1) := by
 rw [List.take_succ_eq_append_getElem h1, List.take_succ_eq_append_getElem h2, h, e]
theorem texts_s (b b' : Bool) (l m : List ByteArray) (hl : l.length ≤ 1000000000) : Ctr Tryz.prog 35 [.sl b 1 (l.map eS), .sl b' 1 (m.map eS)] (fun rr => rr = ⟨(.v (.bool (decide (l = m)))), []⟩) := by
 refine Ctr.of (rs := [.tmp 4]) Tok true Tryz.func35 rfl rfl rfl rfl (by simp [ofDL]) (fun w0 kp => ?_)
 simp only [↓sx0, xE, sevalprocAttr]
 refine BrW.dec (fun hn => ?_) (fun hn => ?_)
 ·simp only [↓sx0, xE, sevalprocAttr]
  have : ¬ l = m := fun h => hn (by rw [h])
  refine EndW.fn ?_ ?_ <;> simp only [sx4, xK, sevalprocAttr] <;> (try simp [this]) <;> (try omega)
 ·simp only [↓sx0, xE, sevalprocAttr]
  have hn2 : l.length = m.length := by omega
  refine LoopW.comp [0, 1, 5] (by simp only [sx2, xR, sevalprocAttr] <;> (try simp) <;> (try omega)) ?_
  simp only [sx2, sxR, sevalprocAttr]
  refine LoopW.up Tok (fun k : Nat => [(5, (.v (.int .i64 k)))]) (fun k => []) (fun k => []) (fun k => []) (fun k => k ≤ l.length ∧ l.take k = m.take k) (fun k => l.length - k) (0) (by simp only [sx2, xR, sevalprocAttr] <;> (try simp) <;> (try omega)) ?_ ?_
  ·exact ⟨by omega, by simp⟩
  rintro k ⟨hk, ht⟩
  simp only [↓sx0, xE, sevalprocAttr]
  refine BrW.dec (fun hlt => ?_) (fun hlt => ?_)
  ·simp only [↓sx0, xE, sevalprocAttr]
   have h1 : k < l.length := by omega
   have h2 : k < m.length := by omega
   refine DrawW.plan Tok mixed (.q 0 <| .q 1 <| .q 2 <| .q 3 <| .q 4 <| .q 5 <| .q 6 <| .q 7 <| .q 8 <| .done) (by kernel_rfl) (by kernel_rfl) ?_
   simp only [↓sx0, xE, sevalprocAttr]
   refine IxW.nat h1 ?_
   simp only [↓sx0, xE, sevalprocAttr]
   refine IxW.nat h2 ?_
   simp only [↓sx0, xE, sevalprocAttr]
   refine BrW.dec (fun hne => ?_) (fun hne => ?_)
   ·simp only [↓sx0, xE, sevalprocAttr]
    have : ¬ l = m := fun h => hne (by subst h; rfl)
    refine EndW.fn ?_ ?_ <;> simp only [sx4, xK, sevalprocAttr] <;> (try simp [this]) <;> (try omega)
   ·simp only [↓sx0, xE, sevalprocAttr]
    have he : l[k] = m[k] := by exact Decidable.not_not.1 hne
    (with_reducible refine Vc.go ?_ fun _ => ?_); focus (first | omega | (simp only [InK]; omega) | (simp [InK] <;> omega))
    simp only [↓sx0, xE, sevalprocAttr]
    refine ⟨k + 1, StLe.auto (by simp only [sx2, xR, sevalprocAttr] <;> (try simp) <;> (try omega)), ?_, ?_⟩
    ·exact ⟨h1, take_eq_succ h1 h2 ht he⟩
    ·omega
  ·simp only [↓sx0, xE, sevalprocAttr]
   have hke : k = l.length := by omega
   subst hke
   rw [List.take_length, hn2, List.take_length] at ht
   refine EndW.fn ?_ ?_ <;> simp only [sx4, xK, sevalprocAttr] <;> (try simp [ht]) <;> (try omega)
theorem grow_s (n : Nat) (hn : n ≤ 1000000) : Ctr Tryz.prog 166 [.v (.slice none 0 0), (.v (.int .i64 n))] (fun rr => rr = ⟨.row 0, [.own 9 1 []]⟩) := by
 refine Ctr.of (rs := [.tmp 4]) Tok false Tryz.func166 rfl rfl rfl rfl (by simp [ofDL]) (fun w0 kp => ?_)
 simp only [↓sx0, xE, sevalprocAttr]
 refine BrW.no (by omega) ?_
 simp only [↓sx0, xE, sevalprocAttr]
 (with_reducible refine Vc.go ?_ fun _ => ?_); focus (first | omega | (simp only [InK]; omega) | (simp [InK] <;> omega))
 simp only [↓sx0, xE, sevalprocAttr]
 (with_reducible refine Vc.go ?_ fun _ => ?_); focus (first | omega | (simp only [InK]; omega) | (simp [InK] <;> omega))
 simp only [↓sx0, xE, sevalprocAttr]
 refine BrW.dec (fun h => ?_) (fun h => ?_)
 ·simp only [↓sx0, xE, sevalprocAttr]
  (with_reducible refine Vc.go ?_ fun _ => ?_); focus (first | omega | (simp only [InK]; omega) | (simp [InK] <;> omega))
  simp only [↓sx0, xE, sevalprocAttr]
  (with_reducible refine Vc.go ?_ fun _ => ?_); focus (first | omega | (simp only [InK]; omega) | (simp [InK] <;> omega))
  simp only [↓sx0, xE, sevalprocAttr]
  (with_reducible refine Vc.go ?_ fun _ => ?_); focus (first | omega | (simp only [InK]; omega) | (simp [InK] <;> omega))
  simp only [↓sx0, xE, sevalprocAttr]
  exact EndW.r [some 1] (by simp) (by simp only [sx4, sxF, xK, sevalprocAttr] <;> simp) (by simp only [sx4, sxF, xK, sevalprocAttr] <;> simp) (by simp only [sx4, sxF, xK, sevalprocAttr] <;> simp) (by simp only [sx4, sxF, xK, sevalprocAttr] <;> simp)
 ·simp only [↓sx0, xE, sevalprocAttr]
  exact EndW.r [none] (by simp) (by simp only [sx4, sxF, xK, sevalprocAttr] <;> simp) (by simp only [sx4, sxF, xK, sevalprocAttr] <;> simp) (by simp only [sx4, sxF, xK, sevalprocAttr] <;> simp) (by simp only [sx4, sxF, xK, sevalprocAttr] <;> simp)
def eSL (p : Bool × List ByteArray) : List D := [.sl p.1 1 (p.2.map eS)]
def cat (ls : List (Bool × List ByteArray)) : List ByteArray := ls.flatMap Prod.snd
theorem lens_take {ls : List (Bool × List ByteArray)} {k : Nat} (h : k < ls.length) : cat (ls.take (k + 1)) = cat (ls.take k) ++ ls[k].2 := by
 rw [List.take_succ_eq_append_getElem h, cat, List.flatMap_append, cat]; simp only [List.flatMap_cons, List.flatMap_nil, List.append_nil]
theorem lens_le (ls : List (Bool × List ByteArray)) (k : Nat) : (cat (ls.take k)).length ≤ (cat ls).length := by
 conv => rhs; rw [← List.take_append_drop k ls, cat, List.flatMap_append, List.length_append]
 unfold cat
 omega
theorem concat_s (b : Bool) (ls : List (Bool × List ByteArray)) (hn : ls.length ≤ 1000) (hl : (cat ls).length ≤ 1000000) :
  Ctr Tryz.prog 124 [.sl b 1 (ls.map eSL)] (fun rr => rr = ⟨.row 0, [.own 9 1 ((cat ls).map eS)]⟩) := by
 have encs := And.intro encs (show ∀ p, eSL p = [.sl p.1 1 (p.2.map eS)] from fun _ => rfl)
 refine Ctr.of (rs := [.tmp 2]) Tok false Tryz.func124 rfl rfl rfl rfl (by simp [ofDL]) (fun w0 kp => ?_)
 simp only [↓sx0, sxE, encs, sevalprocAttr]
 refine LoopW.comp [0, 3, 9, 10, 11] (by simp only [sx2, encs, sxR, sevalprocAttr] <;> (try simp) <;> (try omega)) ?_
 simp only [sx2, sxR, sevalprocAttr]
 refine LoopW.up Tok (fun k : Nat => [(3, (.v (.int .i64 ((cat (ls.take k)).length)))), (11, (.v (.int .i64 k)))]) (fun k => []) (fun k => []) (fun k => []) (fun k => k ≤ ls.length) (fun k => ls.length - k) (0) (by simp only [sx2, encs, sxR, sevalprocAttr] <;> (try simp [cat, encs]) <;> (try omega)) ?_ ?_
 ·omega
 rintro k hk
 have hb := lens_le ls k
 simp only [↓sx0, sxE, encs, sevalprocAttr]
 refine BrW.dec (fun hlt => ?_) (fun hlt => ?_)
 ·simp only [↓sx0, sxE, encs, sevalprocAttr]
  have hk' : k < ls.length := by omega
  have hb2 := lens_le ls (k + 1)
  rw [lens_take hk', List.length_append] at hb2
  refine IxW.nat hk' ?_
  simp only [↓sx0, sxE, encs, sevalprocAttr]
  (with_reducible refine Vc.go ?_ fun _ => ?_); focus (first | omega | (simp only [InK]; omega) | (simp [InK] <;> omega))
  simp only [↓sx0, sxE, encs, sevalprocAttr]
  refine BrW.no (by omega) ?_
  simp only [↓sx0, sxE, encs, sevalprocAttr]
  (with_reducible refine Vc.go ?_ fun _ => ?_); focus (first | omega | (simp only [InK]; omega) | (simp [InK] <;> omega))
  simp only [↓sx0, sxE, encs, sevalprocAttr]
  refine ⟨k + 1, StLe.auto (by simp only [sx2, encs, sxR, sevalprocAttr] <;> (try simp [lens_take hk', encs]) <;> (try omega)), ?_, ?_⟩
  ·omega
  ·omega
 ·simp only [↓sx0, sxE, encs, sevalprocAttr]
  have hke : k = ls.length := by omega
  subst hke
  rw [List.take_length]
  refine CallI.ctr (grow_s (cat ls).length hl) (by simp only [sx3, encs, sxR, sevalprocAttr] <;> (try simp) <;> (try rfl)) ?_
  rintro _ rfl
  simp only [↓sx0, sxE, encs, sevalprocAttr]
  refine LoopW.comp [6, 25, 26, 27] (by simp only [sx2, encs, sxR, sevalprocAttr] <;> (try simp) <;> (try omega)) ?_
  simp only [sx2, sxR, sevalprocAttr]
  refine LoopW.up Tok (fun k : Nat => [(27, (.v (.int .i64 k)))]) (fun k => []) (fun k => [(0, (cat (ls.take k)).map eS)]) (fun k => []) (fun k => k ≤ ls.length) (fun k => ls.length - k) (0) (by simp only [sx2, encs, sxR, sevalprocAttr] <;> (try simp [cat, encs]) <;> (try omega)) ?_ ?_
  ·omega
  rintro k hk
  have hb := lens_le ls k
  simp only [↓sx0, sxE, encs, sevalprocAttr]
  refine BrW.dec (fun hlt => ?_) (fun hlt => ?_)
  ·simp only [↓sx0, sxE, encs, sevalprocAttr]
   have hk' : k < ls.length := by omega
   have hb2 := lens_le ls (k + 1)
   rw [lens_take hk', List.length_append] at hb2
   refine IxW.nat hk' ?_
   simp only [↓sx0, sxE, encs, sevalprocAttr]
   (with_reducible refine Vc.go ?_ fun _ => ?_); focus (first | omega | (simp only [InK]; omega) | (simp [InK] <;> omega))
   simp only [↓sx0, sxE, encs, sevalprocAttr]
   (with_reducible refine Vc.go ?_ fun _ => ?_); focus (first | omega | (simp only [InK]; omega) | (simp [InK] <;> omega))
   simp only [↓sx0, sxE, encs, sevalprocAttr]
   refine ⟨k + 1, StLe.auto (by simp only [sx2, encs, sxR, sevalprocAttr] <;> (try simp [lens_take hk', encs]) <;> (try omega)), ?_, ?_⟩
   ·omega
   ·omega
  ·simp only [↓sx0, sxE, encs, sevalprocAttr]
   have hke : k = ls.length := by omega
   subst hke
   rw [List.take_length]
   exact EndW.r [some 0] (by simp) (by simp only [sx4, sxF, encs, kpLL_map, sxR, sevalprocAttr] <;> simp [kpLL_map, encs, kpL, kpD]) (by simp only [sx4, sxF, encs, kpLL_map, sxR, sevalprocAttr] <;> simp [kpLL_map, encs, kpL, kpD]) (by simp only [sx4, sxF, encs, kpLL_map, sxR, sevalprocAttr] <;> simp [kpLL_map, encs, kpL, kpD]) (by simp only [sx4, sxF, encs, kpLL_map, sxR, sevalprocAttr] <;> simp [kpLL_map, encs, kpL, kpD])
/-- the error of two lists of words. -/
def wdsErr (a b : List ByteArray) : Int := if a.length ≤ 40 ∧ b.length ≤ 40 then (if (a ++ b).any badW = true then 3 else 0) else 8
def AllSz (l : List ByteArray) : Prop := ∀ s ∈ l, s.size ≤ 1000000000
end Go.Proofs.YtgcmppghjfidfaaGreatDoor
