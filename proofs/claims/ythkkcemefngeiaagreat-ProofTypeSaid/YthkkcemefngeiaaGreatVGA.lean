/-
 Chapter 8, walks: small ones, words.
-/
import Derived.Test.YthkkcemefngeiaaGreatVB8
import Derived.Test.YthkkcemefngeiaaGreatVPure
import Derived.Shelf.Strings.FuncGrows
import Derived.Laws.RangeString
import Derived.Test.YthkkcemefngeiaaGreatVIns
namespace Go.Proofs.YthkkcemefngeiaaGreat
open Go Go.Vx
set_option linter.unusedSimpArgs false
set_option linter.unusedVariables false
set_option maxRecDepth 20000
theorem within_s (n lo hi : Int) : Ctr Tryz.prog 43 [(.v (.int .i64 n)), (.v (.int .i64 lo)), (.v (.int .i64 hi))] (fun rr => rr = ⟨(.v (.bool (decide (lo ≤ n ∧ n ≤ hi)))), []⟩) := by
 refine Ctr.of (rs := [.tmp 6]) Tok true Tryz.func43 rfl rfl rfl rfl (by simp [ofDL]) (fun w0 kp => ?_)
 simp only [↓sx0, sxE, encs, sevalprocAttr]
 refine BrW.dec (fun h => ?_) (fun h => ?_)
 ·simp only [↓sx0, sxE, encs, sevalprocAttr]
  refine EndW.fn ?_ ?_ <;> simp only [sx4, encs, kpLL_map, sxR, sevalprocAttr] <;> (try simp [h]) <;> (try omega)
 ·simp only [↓sx0, sxE, encs, sevalprocAttr]
  refine EndW.fn ?_ ?_ <;> simp only [sx4, encs, kpLL_map, sxR, sevalprocAttr] <;> (try simp [h]) <;> (try omega)
theorem withinT_s (n lo hi : Int) : Ctr Tryz.prog 78 [(.v (.int .i64 n)), (.v (.int .i64 lo)), (.v (.int .i64 hi))] (fun rr => rr = ⟨(.v (.bool (decide (lo ≤ n ∧ n ≤ hi)))), []⟩) := by
 refine Ctr.of (rs := [.tmp 6]) Tok true Tryz.func78 rfl rfl rfl rfl (by simp [ofDL]) (fun w0 kp => ?_)
 simp only [↓sx0, sxE, encs, sevalprocAttr]
 refine BrW.dec (fun h => ?_) (fun h => ?_)
 ·simp only [↓sx0, sxE, encs, sevalprocAttr]
  refine EndW.fn ?_ ?_ <;> simp only [sx4, encs, kpLL_map, sxR, sevalprocAttr] <;> (try simp [h]) <;> (try omega)
 ·simp only [↓sx0, sxE, encs, sevalprocAttr]
  refine EndW.fn ?_ ?_ <;> simp only [sx4, encs, kpLL_map, sxR, sevalprocAttr] <;> (try simp [h]) <;> (try omega)
theorem withinB_s (n lo hi : Int) : Ctr Tryz.prog 28 [(.v (.int .i64 n)), (.v (.int .i64 lo)), (.v (.int .i64 hi))] (fun rr => rr = ⟨(.v (.bool (decide (lo ≤ n ∧ n ≤ hi)))), []⟩) := by
 refine Ctr.of (rs := [.tmp 6]) Tok true Tryz.func28 rfl rfl rfl rfl (by simp [ofDL]) (fun w0 kp => ?_)
 simp only [↓sx0, sxE, encs, sevalprocAttr]
 refine BrW.dec (fun h => ?_) (fun h => ?_)
 ·simp only [↓sx0, sxE, encs, sevalprocAttr]
  refine EndW.fn ?_ ?_ <;> simp only [sx4, encs, kpLL_map, sxR, sevalprocAttr] <;> (try simp [h]) <;> (try omega)
 ·simp only [↓sx0, sxE, encs, sevalprocAttr]
  refine EndW.fn ?_ ?_ <;> simp only [sx4, encs, kpLL_map, sxR, sevalprocAttr] <;> (try simp [h]) <;> (try omega)
theorem isKind_s (n : Int) : Ctr Tryz.prog 61 [(.v (.int .i64 n))] (fun rr => rr = ⟨(.v (.bool (decide (1 ≤ n ∧ n ≤ 3)))), []⟩) := by
 refine Ctr.of (rs := [.tmp 2]) Tok true Tryz.func61 rfl rfl rfl rfl (by simp [ofDL]) (fun w0 kp => ?_)
 simp only [↓sx0, sxE, encs, sevalprocAttr]
 refine CallI.fn (within_s n 1 3) (by simp only [sx3, encs, sxR, sevalprocAttr] <;> (try simp) <;> (try rfl)) ?_
 simp only [↓sx0, sxE, encs, sevalprocAttr]
 refine EndW.fn ?_ ?_ <;> simp only [sx4, encs, kpLL_map, sxR, sevalprocAttr] <;> (try simp) <;> (try omega)
theorem isMark_s (s : ByteArray) : Ctr Tryz.prog 81 [(.v (.string (s)))] (fun rr => rr = ⟨(.v (.bool (isMk s))), []⟩) := by
 refine Ctr.of (rs := [.tmp 2]) Tok true Tryz.func81 rfl rfl rfl rfl (by simp [ofDL]) (fun w0 kp => ?_)
 simp only [↓sx0, sxE, encs, sevalprocAttr]
 refine BrW.dec (fun h => ?_) (fun h => ?_)
 ·simp only [↓sx0, sxE, encs, sevalprocAttr]
  have : isMk s = true := by unfold isMk; rw [decide_eq_true (show s = hash from h)]; rfl
  refine EndW.fn ?_ ?_ <;> simp only [sx4, encs, kpLL_map, sxR, sevalprocAttr] <;> (try simp [this]) <;> (try omega)
 ·simp only [↓sx0, sxE, encs, sevalprocAttr]
  have : isMk s = decide (s = ⟨#[94]⟩) := by unfold isMk; rw [decide_eq_false (show ¬ s = hash from h)]; rfl
  refine EndW.fn ?_ ?_ <;> simp only [sx4, encs, kpLL_map, sxR, sevalprocAttr] <;> (try simp [this]) <;> (try omega)
theorem isMarkR_s (s : ByteArray) : Ctr Tryz.prog 30 [(.v (.string (s)))] (fun rr => rr = ⟨(.v (.bool (isMk s))), []⟩) := by
 refine Ctr.of (rs := [.tmp 2]) Tok true Tryz.func30 rfl rfl rfl rfl (by simp [ofDL]) (fun w0 kp => ?_)
 simp only [↓sx0, sxE, encs, sevalprocAttr]
 refine BrW.dec (fun h => ?_) (fun h => ?_)
 ·simp only [↓sx0, sxE, encs, sevalprocAttr]
  have : isMk s = true := by unfold isMk; rw [decide_eq_true (show s = hash from h)]; rfl
  refine EndW.fn ?_ ?_ <;> simp only [sx4, encs, kpLL_map, sxR, sevalprocAttr] <;> (try simp [this]) <;> (try omega)
 ·simp only [↓sx0, sxE, encs, sevalprocAttr]
  have : isMk s = decide (s = ⟨#[94]⟩) := by unfold isMk; rw [decide_eq_false (show ¬ s = hash from h)]; rfl
  refine EndW.fn ?_ ?_ <;> simp only [sx4, encs, kpLL_map, sxR, sevalprocAttr] <;> (try simp [this]) <;> (try omega)
theorem bytesD_eq (s : ByteArray) : bytesD s = s.data.toList.map fun b => [.v (.int .u8 (b.toNat : Int))] := rfl
theorem bytesD_len (s : ByteArray) : (bytesD s).length = s.size := by simp [bytesD]
theorem isWord_s (s : ByteArray) (hs : s.size ≤ 1000000000) : Ctr Tryz.prog 56 [(.v (.string (s)))] (fun rr => rr = ⟨(.v (.bool (isWd s))), []⟩) := by
 refine Ctr.of (rs := [.tmp 2]) Tok true Tryz.func56 rfl rfl rfl rfl (by simp [ofDL]) (fun w0 kp => ?_)
 simp only [↓sx0, sxE, encs, sevalprocAttr]
 rw [bytesD_len]
 refine LoopW.comp [0, 6, 7, 8] (by simp only [sx2, encs, sxR, sevalprocAttr] <;> (try simp) <;> (try omega)) ?_
 simp only [sx2, sxR, sevalprocAttr]
 refine LoopW.up Tok (fun k : Nat => [(8, (.v (.int .i64 k)))]) (fun k => []) (fun k => []) (fun k => []) (fun k => k ≤ s.size ∧ (s.data.toList.take k).all okB = true) (fun k => s.size - k) (0) (by simp only [sx2, encs, sxR, sevalprocAttr] <;> (try simp) <;> (try omega)) ?_ ?_
 ·exact ⟨by omega, by simp⟩
 rintro k ⟨hk, ht⟩
 simp only [↓sx0, sxE, encs, sevalprocAttr]
 refine BrW.dec (fun hlt => ?_) (fun hlt => ?_)
 ·simp only [↓sx0, sxE, encs, sevalprocAttr]
  have hlt : k < s.size := by omega
  have hl : k < s.data.toList.length := by simpa using hlt
  rw [bytesD_eq]
  refine IxW.nat hl ?_
  simp only [↓sx0, sxE, encs, sevalprocAttr]
  have nxt := take_all_succ hl ht
  have bad := bytesOk_bad (s := s) hl
  generalize hcc : s.data.toList[k] = c at nxt bad ⊢
  clear hcc
  refine BrW.dec (fun h1 => ?_) (fun h1 => ?_)
  ·simp only [↓sx0, sxE, encs, sevalprocAttr]
   have : isWd s = false := by rw [isWd, bad (by simp [okB]; omega)]; rfl
   refine EndW.fn ?_ ?_ <;> simp only [sx4, encs, kpLL_map, sxR, sevalprocAttr] <;> (try simp [this]) <;> (try omega)
  ·simp only [↓sx0, sxE, encs, sevalprocAttr]
   refine BrW.dec (fun h2 => ?_) (fun h2 => ?_)
   ·simp only [↓sx0, sxE, encs, sevalprocAttr]
    have : isWd s = false := by rw [isWd, bad (by simp [okB]; omega)]; rfl
    refine EndW.fn ?_ ?_ <;> simp only [sx4, encs, kpLL_map, sxR, sevalprocAttr] <;> (try simp [this]) <;> (try omega)
   ·simp only [↓sx0, sxE, encs, sevalprocAttr]
    (with_reducible refine Vc.go ?_ fun _ => ?_); focus (first | omega | (simp only [InK]; omega) | (simp [InK]; done) | (simp [InK]; omega))
    simp only [↓sx0, sxE, encs, sevalprocAttr]
    refine ⟨k + 1, StLe.auto (by simp only [sx2, encs, sxR, sevalprocAttr] <;> (try simp) <;> (try omega)), ?_, ?_⟩
    ·exact ⟨by omega, nxt (by simp [okB]; omega)⟩
    ·omega
 ·simp only [↓sx0, sxE, encs, sevalprocAttr]
  have hke : k = s.size := by omega
  subst hke
  refine CallI.fn (within_s (s.size : Int) 1 30) (by simp only [sx3, encs, sxR, sevalprocAttr] <;> (try simp) <;> (try rfl)) ?_
  simp only [↓sx0, sxE, encs, sevalprocAttr]
  have : isWd s = decide ((1 : Int) ≤ (s.size : Int) ∧ (s.size : Int) ≤ 30) := by
   rw [isWd, bytesOk, ← List.take_length (l := s.data.toList), show s.data.toList.length = s.size by simp, ht, Bool.true_and, decide_eq_decide]; omega
  refine EndW.fn ?_ ?_ <;> simp only [sx4, encs, kpLL_map, sxR, sevalprocAttr] <;> (try simp [this]) <;> (try omega)
theorem isByteR_s (c : UInt8) : Ctr Tryz.prog 41 [.v (.int .u8 (c.toNat : Int))] (fun rr => rr = ⟨(.v (.bool (okB c))), []⟩) := by
 refine Ctr.of (rs := [.tmp 2]) Tok true Tryz.func41 rfl rfl rfl rfl (by simp [ofDL]) (fun w0 kp => ?_)
 simp only [↓sx0, sxE, encs, sevalprocAttr]
 refine BrW.dec (fun h => ?_) (fun h => ?_)
 ·simp only [↓sx0, sxE, encs, sevalprocAttr]
  have : okB c = decide ((c.toNat : Int) ≤ 126) := by unfold okB; rw [decide_eq_decide]; omega
  refine EndW.fn ?_ ?_ <;> simp only [sx4, encs, kpLL_map, sxR, sevalprocAttr] <;> (try simp [this]) <;> (try omega)
 ·simp only [↓sx0, sxE, encs, sevalprocAttr]
  have : okB c = false := by unfold okB; rw [decide_eq_false_iff_not]; omega
  refine EndW.fn ?_ ?_ <;> simp only [sx4, encs, kpLL_map, sxR, sevalprocAttr] <;> (try simp [this]) <;> (try omega)
theorem isWordR_s (s : ByteArray) (hs : s.size ≤ 1000000000) : Ctr Tryz.prog 29 [(.v (.string (s)))] (fun rr => rr = ⟨(.v (.bool (isWd s))), []⟩) := by
 refine Ctr.of (rs := [.tmp 2]) Tok true Tryz.func29 rfl rfl rfl rfl (by simp [ofDL]) (fun w0 kp => ?_)
 simp only [↓sx0, sxE, encs, sevalprocAttr]
 refine LoopW.comp [0, 3] (by simp only [sx2, encs, sxR, sevalprocAttr] <;> (try simp) <;> (try omega)) ?_
 simp only [sx2, sxR, sevalprocAttr]
 refine LoopW.up Tok (fun k : Nat => [(3, (.v (.int .i64 k)))]) (fun k => []) (fun k => []) (fun k => []) (fun k => k ≤ s.size ∧ (s.data.toList.take k).all okB = true) (fun k => s.size - k) (0) (by simp only [sx2, encs, sxR, sevalprocAttr] <;> (try simp) <;> (try omega)) ?_ ?_
 ·exact ⟨by omega, by simp⟩
 rintro k ⟨hk, ht⟩
 simp only [↓sx0, sxE, encs, sevalprocAttr]
 refine BrW.dec (fun hlt => ?_) (fun hlt => ?_)
 ·simp only [↓sx0, sxE, encs, sevalprocAttr]
  have hlt : k < s.size := by omega
  have hl : k < s.data.toList.length := by simpa using hlt
  refine StrIx.nat hlt ?_
  have nxt := take_all_succ hl ht
  have bad := bytesOk_bad (s := s) hl
  have hce : s[k] = s.data.toList[k] := rfl
  rw [hce]
  generalize hcc : s.data.toList[k] = c at nxt bad ⊢
  clear hcc hce
  simp only [↓sx0, sxE, encs, sevalprocAttr]
  refine CallI.fn (isByteR_s c) (by simp only [sx3, encs, sxR, sevalprocAttr] <;> (try simp) <;> (try rfl)) ?_
  simp only [↓sx0, sxE, encs, sevalprocAttr]
  refine BrW.of (fun hb => ?_) (fun hb => ?_)
  ·simp only [↓sx0, sxE, encs, sevalprocAttr]
   (with_reducible refine Vc.go ?_ fun _ => ?_); focus (first | omega | (simp only [InK]; omega) | (simp [InK]; done) | (simp [InK]; omega))
   simp only [↓sx0, sxE, encs, sevalprocAttr]
   refine ⟨k + 1, StLe.auto (by simp only [sx2, encs, sxR, sevalprocAttr] <;> (try simp) <;> (try omega)), ?_, ?_⟩
   ·exact ⟨by omega, nxt hb⟩
   ·omega
  ·simp only [↓sx0, sxE, encs, sevalprocAttr]
   have : isWd s = false := by rw [isWd, bad hb]; rfl
   refine EndW.fn ?_ ?_ <;> simp only [sx4, encs, kpLL_map, sxR, sevalprocAttr] <;> (try simp [this]) <;> (try omega)
 ·simp only [↓sx0, sxE, encs, sevalprocAttr]
  have hke : k = s.size := by omega
  subst hke
  refine CallI.fn (withinB_s (s.size : Int) 1 30) (by simp only [sx3, encs, sxR, sevalprocAttr] <;> (try simp) <;> (try rfl)) ?_
  simp only [↓sx0, sxE, encs, sevalprocAttr]
  have : isWd s = decide ((1 : Int) ≤ (s.size : Int) ∧ (s.size : Int) ≤ 30) := by
   rw [isWd, bytesOk, ← List.take_length (l := s.data.toList), show s.data.toList.length = s.size by simp, ht, Bool.true_and, decide_eq_decide]; omega
  refine EndW.fn ?_ ?_ <;> simp only [sx4, encs, kpLL_map, sxR, sevalprocAttr] <;> (try simp [this]) <;> (try omega)
end Go.Proofs.YthkkcemefngeiaaGreat
/-
 Whether a text is a word: the library's search for a rune, by its own contract.
-/
namespace Go.Proofs.YthkkcemefngeiaaGreat
open Go Go.Vx Go.Shelf Go.RowKit
set_option linter.unusedSimpArgs false
set_option linter.unusedVariables false
def rIdx : Ren := ⟨fun | 315 => 114 | n => n, fun | 9 => 9 | 40 => 138 | 4 => 4 | 3 => 3 | 0 => 0 | 21 => 21 | n => n, fun n => n⟩
theorem laysIdx : Lays.n315 Tryz.prog rIdx := { mixed := rfl, f315 := Tryz.func114, t0 := Tryz.underlying0, a0 := Tryz.isAgg0, z0 := Tryz.sizeOf0, v0 := Tryz.zeroValue0, t3 := Tryz.underlying3, a3 := Tryz.isAgg3, z3 := Tryz.sizeOf3, v3 := Tryz.zeroValue3, t4 := Tryz.underlying4, a4 := Tryz.isAgg4, z4 := Tryz.sizeOf4, v4 := Tryz.zeroValue4, t9 := Tryz.underlying9, a9 := Tryz.isAgg9, z9 := Tryz.sizeOf9, v9 := Tryz.zeroValue9, t21 := Tryz.underlying21, a21 := Tryz.isAgg21, z21 := Tryz.sizeOf21, v21 := Tryz.zeroValue21, t40 := Tryz.underlying138, a40 := Tryz.isAgg138, z40 := Tryz.sizeOf138, v40 := Tryz.zeroValue138 }
def badR (r : Nat) : Bool := decide (r < 33) || decide (126 < r)
theorem isWord1_s (r : Nat) : Ctr Tryz.prog 104 [.v (.int .i32 (r : Int))] (fun rr => rr = ⟨(.v (.bool (badR r))), []⟩) := by
 refine Ctr.of (rs := [.tmp 2]) Tok true Tryz.func104 rfl rfl rfl rfl (by simp [ofDL]) (fun w0 kp => ?_)
 simp only [↓sx0, sxE, encs, sevalprocAttr]
 refine BrW.dec (fun h => ?_) (fun h => ?_)
 ·simp only [↓sx0, sxE, encs, sevalprocAttr]
  have : badR r = true := by simp [badR]; omega
  refine EndW.fn ?_ ?_ <;> simp only [sx4, encs, kpLL_map, sxR, sevalprocAttr] <;> (try simp [this]) <;> (try omega)
 ·simp only [↓sx0, sxE, encs, sevalprocAttr]
  have : badR r = decide (126 < (r : Int)) := by rw [Bool.eq_iff_iff]; simp [badR]; omega
  refine EndW.fn ?_ ?_ <;> simp only [sx4, encs, kpLL_map, sxR, sevalprocAttr] <;> (try simp [this]) <;> (try omega)
/-- a contract with values, as a fact on calls. -/
theorem ctr_call {P : Program} {f : FuncId} {xs : List Value} {u : Value} (h : Ctr P f (xs.map .v) (fun rr => rr = ⟨.v u, []⟩)) (w : World) : Calls P f xs.toArray w fun e w' => e = .returned u ∧ Below w.heap.size w w' := by
 refine (h.2 w (fun _ => none) (fun b o hb => by cases hb) xs (rels_same xs)).mono ?_
 rintro e w' ⟨v, r, rfl, rfl, hb, g, _, _, hv, _⟩
 simp only [rel] at hv
 exact ⟨by rw [hv], hb⟩
theorem grows (w : World) : PredGrows Tryz.prog 104 #[] badR w := fun W x _ _ => by
 have := ctr_call (xs := [.int .i32 (x : Int)]) (isWord1_s x) W
 simpa using this
theorem callee (args : Array Value) (w : World) : (callFunc 104 args).run Tryz.prog w = .ok (.enter 104 args) w := Go.Proofs.enters_of Tryz.func104 (by kernel_rfl) rfl args w
theorem indexFunc_s (s : ByteArray) : Ctr Tryz.prog 114 [(.v (.string (s))), .clo 104 [], (.v (.bool (true)))] (fun rr => rr = ⟨(.v (.int .i64 (Lib.idxFunc badR true s))), []⟩) := by
 refine ⟨⟨_, Tryz.func114, rfl, rfl⟩, fun w kp hk vs hr => ?_⟩
 match vs, hr with
 | [a, b, c], ⟨h1, ⟨cs, h2, h3⟩, h4, _⟩ =>
  simp only [rel] at h1 h4
  have hcs : cs = #[] := by
   cases hl : cs.toList with
   | nil => simpa using hl
   | cons x l => rw [hl] at h3; exact h3.elim
  subst hcs
  rw [h1, h2, h4]
  have := Any.strings_indexFunc_grows laysIdx 104 #[] callee badR true s w (grows w)
  refine Calls.mono this ?_
  rintro e w' ⟨rfl, hb⟩
  exact ⟨_, _, rfl, rfl, RetOk.plain hk hb fun g => rfl⟩
theorem decode_big (s : ByteArray) (pos : Nat) (h : pos < s.size) (ha : 128 ≤ s[pos].toNat) : 128 ≤ (Utf8.decode s pos).1 := by
 have h0 : (s.get! (pos + 0)).toNat = s[pos].toNat := by simp [ByteArray.get!, h, getElem!_pos, ByteArray.getElem_eq_getElem_data]
 unfold Utf8.decode
 simp only [h0, Utf8.runeError]
 repeat' split
 all_goals first | omega | (rename_i hh; simp only [Bool.and_eq_true, decide_eq_true_eq] at hh; omega) | (simp_all; done) | (simp_all; omega)
theorem idx_from {s : ByteArray} : ∀ (f pos : Nat), s.size ≤ pos + f → (Lib.idxFuncFrom badR true s f pos < 0 ↔ (s.data.toList.drop pos).all okB = true)
 | 0, pos, h => by
  have : s.data.toList.drop pos = [] := List.drop_eq_nil_iff.2 (by simp; omega)
  simp [Lib.idxFuncFrom, this]
 | f + 1, pos, h => by
  unfold Lib.idxFuncFrom
  split
  ·rename_i hlt
   have hl : pos < s.data.toList.length := by simpa using hlt
   rw [List.drop_eq_getElem_cons hl, List.all_cons]
   have hce : s[pos] = s.data.toList[pos] := rfl
   rw [← hce]
   by_cases ha : s[pos].toNat < 128
   ·rw [decode_ascii s pos hlt ha]
    by_cases hb : badR s[pos].toNat = true
    ·rw [if_pos hb]
     have : okB s[pos] = false := by simp only [badR, Bool.or_eq_true, decide_eq_true_eq] at hb; simp [okB]; omega
     rw [this]; simp
    ·rw [if_neg hb, idx_from f (pos + 1) (by omega)]
     have : okB s[pos] = true := by simp only [badR, Bool.or_eq_true, decide_eq_true_eq] at hb; simp [okB]; omega
     rw [this, Bool.true_and]
   ·have h1 := decode_big s pos hlt (by omega)
    rw [if_pos (by simp [badR]; omega)]
    have : okB s[pos] = false := by simp [okB]; omega
    rw [this]; simp
  ·have : s.data.toList.drop pos = [] := List.drop_eq_nil_iff.2 (by simp; omega)
   simp [this]
theorem idx_ok (s : ByteArray) : decide (Lib.idxFunc badR true s < 0) = bytesOk s := by
 have := idx_from (s := s) s.size 0 (by omega)
 rw [Bool.eq_iff_iff, decide_eq_true_eq]
 simpa [Lib.idxFunc, bytesOk] using this
theorem isWordT_s (s : ByteArray) : Ctr Tryz.prog 80 [(.v (.string (s)))] (fun rr => rr = ⟨(.v (.bool (isWd s))), []⟩) := by
 have hI : Ctr Tryz.prog 103 [(.v (.string (s))), .clo 104 []] (fun rr => rr = ⟨(.v (.int .i64 (Lib.idxFunc badR true s))), []⟩) := by
  refine Ctr.of (rs := [.tmp 4]) Tok true Tryz.func103 rfl rfl rfl rfl (by simp [ofDL]) (fun w0 kp => ?_)
  simp only [↓sx0, sxE, encs, sevalprocAttr]
  refine CallI.fn (indexFunc_s s) (by simp only [sx3, encs, sxR, sevalprocAttr] <;> (try simp) <;> (try rfl)) ?_
  simp only [↓sx0, sxE, encs, sevalprocAttr]
  refine EndW.fn ?_ ?_ <;> simp only [sx4, encs, kpLL_map, sxR, sevalprocAttr] <;> (try simp) <;> (try omega)
 refine Ctr.of (rs := [.tmp 2]) Tok true Tryz.func80 rfl rfl rfl rfl (by simp [ofDL]) (fun w0 kp => ?_)
 simp only [↓sx0, sxE, encs, sevalprocAttr]
 refine CallI.fn (withinT_s (s.size : Int) 1 30) (by simp only [sx3, encs, sxR, sevalprocAttr] <;> (try simp) <;> (try rfl)) ?_
 simp only [↓sx0, sxE, encs, sevalprocAttr]
 refine BrW.of (fun hw => ?_) (fun hw => ?_)
 ·have hw : (1 : Int) ≤ s.size ∧ (s.size : Int) ≤ 30 := by simpa using hw
  simp only [↓sx0, sxE, encs, sevalprocAttr]
  refine CallI.fn (hI) (by simp only [sx3, encs, sxR, sevalprocAttr] <;> (try simp) <;> (try rfl)) ?_
  simp only [↓sx0, sxE, encs, sevalprocAttr]
  rw [idx_ok]
  have : isWd s = bytesOk s := by rw [isWd, decide_eq_true (show 1 ≤ s.size ∧ s.size ≤ 30 by omega), Bool.and_true]
  refine EndW.fn ?_ ?_ <;> simp only [sx4, encs, kpLL_map, sxR, sevalprocAttr] <;> (try simp [this]) <;> (try omega)
 ·have hw : ¬ ((1 : Int) ≤ s.size ∧ (s.size : Int) ≤ 30) := by simpa using hw
  simp only [↓sx0, sxE, encs, sevalprocAttr]
  have : isWd s = false := by rw [isWd, decide_eq_false (show ¬ (1 ≤ s.size ∧ s.size ≤ 30) by omega), Bool.and_false]
  refine EndW.fn ?_ ?_ <;> simp only [sx4, encs, kpLL_map, sxR, sevalprocAttr] <;> (try simp [this]) <;> (try omega)
end Go.Proofs.YthkkcemefngeiaaGreat
/-
 Chapter 8, walks: parts of a copy are right.
-/
namespace Go.Proofs.YthkkcemefngeiaaGreat
open Go Go.Vx
set_option linter.unusedSimpArgs false
set_option linter.unusedVariables false
set_option maxRecDepth 20000
def ixG {α : Type} (p : α → Bool) (l : List α) : Int := match l.findIdx? p with
 | some k => (k : Int)
 | none => -1
theorem ixG_at {α : Type} {p : α → Bool} {l : List α} {k : Nat} (hk : k < l.length) (he : p l[k] = true) (ht : ∀ j (_ : j < k) (h2 : j < l.length), p l[j] = false) : ixG p l = k := by
 have : l.findIdx? p = some k := by
  rw [List.findIdx?_eq_some_iff_getElem]
  exact ⟨hk, he, fun j hj => by simpa using ht j hj (by omega)⟩
 simp [ixG, this]
theorem ixG_no {α : Type} {p : α → Bool} {l : List α} (ht : ∀ j (h2 : j < l.length), p l[j] = false) : ixG p l = -1 := by
 have : l.findIdx? p = none := by
  rw [List.findIdx?_eq_none_iff]
  intro y hy
  obtain ⟨j, h1, rfl⟩ := List.getElem_of_mem hy
  exact ht j h1
 simp [ixG, this]
theorem ixG_any {α : Type} {p : α → Bool} {l : List α} : decide (0 ≤ ixG p l) = l.any p := by
 rw [Bool.eq_iff_iff, decide_eq_true_eq, List.any_eq_true]
 unfold ixG
 cases h : l.findIdx? p with
 | none =>
  rw [List.findIdx?_eq_none_iff] at h
  simp only
  refine ⟨fun h => by omega, fun ⟨x, h1, h2⟩ => ?_⟩
  rw [h x h1] at h2; cases h2
 | some k =>
  rw [List.findIdx?_eq_some_iff_getElem] at h
  obtain ⟨h1, h2, _⟩ := h
  exact ⟨fun _ => ⟨_, List.getElem_mem h1, h2⟩, fun _ => by simp only; omega⟩
theorem indexS_s (b : Bool) (f : Nat) (p : ByteArray → Bool) (l : List ByteArray) (hl : l.length ≤ 1000000000) (hof : ∀ x ∈ l, Ctr Tryz.prog f [(.v (.string (x)))] (fun rr => rr = ⟨(.v (.bool (p x))), []⟩)) : Ctr Tryz.prog 73 [.sl b 1 (l.map eS), .clo f []] (fun rr => rr = ⟨(.v (.int .i64 (ixG p l))), []⟩) := by
 refine Ctr.of (rs := [.tmp 4]) Tok true Tryz.func73 rfl rfl rfl rfl (by simp [ofDL]) (fun w0 kp => ?_)
 simp only [↓sx0, sxE, encs, sevalprocAttr]
 refine LoopW.comp [0, 1, 7, 8] (by simp only [sx2, encs, sxR, sevalprocAttr] <;> (try simp) <;> (try omega)) ?_
 simp only [sx2, sxR, sevalprocAttr]
 refine LoopW.up Tok (fun k : Nat => [(8, (.v (.int .i64 k)))]) (fun k => []) (fun k => []) (fun k => []) (fun k => k ≤ l.length ∧ ∀ j (_ : j < k) (h2 : j < l.length), p l[j] = false) (fun k => l.length - k) (0) (by simp only [sx2, encs, sxR, sevalprocAttr] <;> (try simp) <;> (try omega)) ?_ ?_
 ·exact ⟨by omega, fun j h => absurd h (Nat.not_lt_zero _)⟩
 rintro k ⟨hk, ht⟩
 simp only [↓sx0, sxE, encs, sevalprocAttr]
 refine BrW.dec (fun hlt => ?_) (fun hlt => ?_)
 ·simp only [↓sx0, sxE, encs, sevalprocAttr]
  have hlt : k < l.length := by omega
  refine IxW.nat hlt ?_
  simp only [↓sx0, sxE, encs, sevalprocAttr]
  refine CallI.fn (hof l[k] (List.getElem_mem hlt)) (by simp only [sx3, encs, sxR, sevalprocAttr] <;> (try simp) <;> (try rfl)) ?_
  simp only [↓sx0, sxE, encs, sevalprocAttr]
  refine BrW.of (fun hb => ?_) (fun hb => ?_)
  ·simp only [↓sx0, sxE, encs, sevalprocAttr]
   have := ixG_at hlt hb ht
   refine EndW.fn ?_ ?_ <;> simp only [sx4, encs, kpLL_map, sxR, sevalprocAttr] <;> (try simp [this]) <;> (try omega)
  ·simp only [↓sx0, sxE, encs, sevalprocAttr]
   (with_reducible refine Vc.go ?_ fun _ => ?_); focus (first | omega | (simp only [InK]; omega) | (simp [InK]; done) | (simp [InK]; omega))
   simp only [↓sx0, sxE, encs, sevalprocAttr]
   refine ⟨k + 1, StLe.auto (by simp only [sx2, encs, sxR, sevalprocAttr] <;> (try simp) <;> (try omega)), ?_, ?_⟩
   ·refine ⟨hlt, fun j h h2 => ?_⟩
    by_cases e : j = k
    ·subst e; exact hb
    ·exact ht j (by omega) h2
   ·omega
 ·simp only [↓sx0, sxE, encs, sevalprocAttr]
  have hke : k = l.length := by omega
  subst hke
  have := ixG_no (l := l) (p := p) fun j h => ht j h h
  refine EndW.fn ?_ ?_ <;> simp only [sx4, encs, kpLL_map, sxR, sevalprocAttr] <;> (try simp [this]) <;> (try omega)
theorem containsS_s (b : Bool) (f : Nat) (p : ByteArray → Bool) (l : List ByteArray) (hl : l.length ≤ 1000000000) (hof : ∀ x ∈ l, Ctr Tryz.prog f [(.v (.string (x)))] (fun rr => rr = ⟨(.v (.bool (p x))), []⟩)) : Ctr Tryz.prog 53 [.sl b 1 (l.map eS), .clo f []] (fun rr => rr = ⟨(.v (.bool (l.any p))), []⟩) := by
 refine Ctr.of (rs := [.tmp 4]) Tok true Tryz.func53 rfl rfl rfl rfl (by simp [ofDL]) (fun w0 kp => ?_)
 simp only [↓sx0, sxE, encs, sevalprocAttr]
 refine CallI.fn (indexS_s b f p l hl hof) (by simp only [sx3, encs, sxR, sevalprocAttr] <;> (try simp) <;> (try rfl)) ?_
 simp only [↓sx0, sxE, encs, sevalprocAttr]
 rw [ixG_any]
 refine EndW.fn ?_ ?_ <;> simp only [sx4, encs, kpLL_map, sxR, sevalprocAttr] <;> (try simp) <;> (try omega)
def badW (s : ByteArray) : Bool := !isWd s
theorem part1_s (s : ByteArray) : Ctr Tryz.prog 79 [(.v (.string (s)))] (fun rr => rr = ⟨(.v (.bool (badW s))), []⟩) := by
 refine Ctr.of (rs := [.tmp 2]) Tok true Tryz.func79 rfl rfl rfl rfl (by simp [ofDL]) (fun w0 kp => ?_)
 simp only [↓sx0, sxE, encs, sevalprocAttr]
 refine CallI.fn (isWordT_s s) (by simp only [sx3, encs, sxR, sevalprocAttr] <;> (try simp) <;> (try rfl)) ?_
 simp only [↓sx0, sxE, encs, sevalprocAttr]
 refine EndW.fn ?_ ?_ <;> simp only [sx4, encs, kpLL_map, sxR, sevalprocAttr] <;> (try simp [badW]) <;> (try omega)
/-- the error of a part. -/
def partErr (p : Pt) : Int :=
 if 1 ≤ p.kind ∧ p.kind ≤ 3 then (if p.words.length = 0 then 10 else if 100 < p.words.length then 8 else if p.words.any badW = true ∨ isMk (p.words.headD hash) = true then 3 else 0) else 15
theorem headD_get {α : Type} {l : List α} {d : α} (h : 0 < l.length) : l.headD d = l[0] := by
 cases l with
 | nil => simp at h
 | cons x l => rfl
theorem checkPart_s (b : Bool) (p : Pt) : Ctr Tryz.prog 60 [.agg [(.v (.int .i64 p.kind)), .sl b 1 (p.words.map eS)]] (fun rr => rr = ⟨(.v (.int .i64 (partErr p))), []⟩) := by
 refine Ctr.of (rs := [.tmp 2]) Tok true Tryz.func60 rfl rfl rfl rfl (by simp [ofDL]) (fun w0 kp => ?_)
 simp only [↓sx0, sxE, encs, sevalprocAttr]
 refine CallI.fn (withinT_s p.kind 1 3) (by simp only [sx3, encs, sxR, sevalprocAttr] <;> (try simp) <;> (try rfl)) ?_
 simp only [↓sx0, sxE, encs, sevalprocAttr]
 refine BrW.of (fun hk => ?_) (fun hk => ?_)
 ·have hk : 1 ≤ p.kind ∧ p.kind ≤ 3 := by simpa using hk
  simp only [↓sx0, sxE, encs, sevalprocAttr]
  refine BrW.dec (fun h0 => ?_) (fun h0 => ?_)
  ·simp only [↓sx0, sxE, encs, sevalprocAttr]
   rw [show partErr p = 10 by rw [partErr, if_pos hk, if_pos (by omega)]]
   refine EndW.fn ?_ ?_ <;> simp only [sx4, encs, kpLL_map, sxR, sevalprocAttr] <;> (try simp) <;> (try omega)
  ·simp only [↓sx0, sxE, encs, sevalprocAttr]
   refine BrW.dec (fun h8 => ?_) (fun h8 => ?_)
   ·simp only [↓sx0, sxE, encs, sevalprocAttr]
    rw [show partErr p = 8 by rw [partErr, if_pos hk, if_neg (by omega), if_pos (by omega)]]
    refine EndW.fn ?_ ?_ <;> simp only [sx4, encs, kpLL_map, sxR, sevalprocAttr] <;> (try simp) <;> (try omega)
   ·simp only [↓sx0, sxE, encs, sevalprocAttr]
    have hpe : partErr p = if p.words.any badW = true ∨ isMk (p.words.headD hash) = true then 3 else 0 := by rw [partErr, if_pos hk, if_neg (by omega), if_neg (by omega)]
    have hpos : 0 < p.words.length := by omega
    refine CallI.fn (containsS_s b 79 badW p.words (by omega) (fun x _ => part1_s x)) (by simp only [sx3, encs, sxR, sevalprocAttr] <;> (try simp) <;> (try rfl)) ?_
    simp only [↓sx0, sxE, encs, sevalprocAttr]
    refine BrW.of (fun hb => ?_) (fun hb => ?_)
    ·simp only [↓sx0, sxE, encs, sevalprocAttr]
     rw [hpe, if_pos (.inl hb)]
     refine EndW.fn ?_ ?_ <;> simp only [sx4, encs, kpLL_map, sxR, sevalprocAttr] <;> (try simp) <;> (try omega)
    ·simp only [↓sx0, sxE, encs, sevalprocAttr]
     refine IxW.nat (j := 0) hpos ?_
     simp only [↓sx0, sxE, encs, sevalprocAttr]
     refine CallI.fn (isMark_s p.words[0]) (by simp only [sx3, encs, sxR, sevalprocAttr] <;> (try simp) <;> (try rfl)) ?_
     simp only [↓sx0, sxE, encs, sevalprocAttr]
     refine BrW.of (fun hm => ?_) (fun hm => ?_)
     ·simp only [↓sx0, sxE, encs, sevalprocAttr]
      rw [hpe, if_pos (.inr (by rw [headD_get hpos]; exact hm))]
      refine EndW.fn ?_ ?_ <;> simp only [sx4, encs, kpLL_map, sxR, sevalprocAttr] <;> (try simp) <;> (try omega)
     ·simp only [↓sx0, sxE, encs, sevalprocAttr]
      rw [hpe, if_neg (by rw [headD_get hpos, hb, hm]; simp)]
      refine EndW.fn ?_ ?_ <;> simp only [sx4, encs, kpLL_map, sxR, sevalprocAttr] <;> (try simp) <;> (try omega)
 ·have hk : ¬ (1 ≤ p.kind ∧ p.kind ≤ 3) := by simpa using hk
  simp only [↓sx0, sxE, encs, sevalprocAttr]
  rw [show partErr p = 15 by rw [partErr, if_neg hk]]
  refine EndW.fn ?_ ?_ <;> simp only [sx4, encs, kpLL_map, sxR, sevalprocAttr] <;> (try simp) <;> (try omega)
/-- the number and the error of the first part that is wrong. -/
def partsE : Nat → List Pt → Int × Int
 | _, [] => (0, 0)
 | k, p :: l => if partErr p = 0 then partsE (k + 1) l else ((k : Int), partErr p)
def partsErr (l : List Pt) : Int × Int := if 60 < l.length then (0, 8) else partsE 0 l
theorem partsE_at {l : List Pt} {k : Nat} (h : k < l.length) (ht : partsE k (l.drop k) = partsE 0 l) : partsE 0 l = if partErr l[k] = 0 then partsE (k + 1) (l.drop (k + 1)) else ((k : Int), partErr l[k]) := by
 rw [← ht, List.drop_eq_getElem_cons h]
 rfl
theorem checkParts_s (b b2 : Bool) (l : List Pt) : Ctr Tryz.prog 40 [.sl b 2 (l.map (eP b2))] (fun rr => rr = ⟨.tup [(.v (.int .i64 ((partsErr l).1))), (.v (.int .i64 ((partsErr l).2)))], []⟩) := by
 refine Ctr.of (rs := [.tmp 2, .tmp 3]) Tok true Tryz.func40 rfl rfl rfl rfl (by simp [ofDL]) (fun w0 kp => ?_)
 simp only [↓sx0, sxE, encs, sevalprocAttr]
 refine BrW.dec (fun h1 => ?_) (fun h1 => ?_)
 ·simp only [↓sx0, sxE, encs, sevalprocAttr]
  rw [show partsErr l = (0, 8) by rw [partsErr, if_pos (by omega)]]
  refine EndW.fn ?_ ?_ <;> simp only [sx4, encs, kpLL_map, sxR, sevalprocAttr] <;> (try simp) <;> (try omega)
 ·simp only [↓sx0, sxE, encs, sevalprocAttr]
  rw [show partsErr l = partsE 0 l by rw [partsErr, if_neg (by omega)]]
  refine LoopW.comp [10, 11, 12] (by simp only [sx2, encs, sxR, sevalprocAttr] <;> (try simp) <;> (try omega)) ?_
  simp only [sx2, sxR, sevalprocAttr]
  refine LoopW.up Tok (fun k : Nat => [(12, (.v (.int .i64 k)))]) (fun k => []) (fun k => []) (fun k => []) (fun k => k ≤ l.length ∧ partsE k (l.drop k) = partsE 0 l) (fun k => l.length - k) (0) (by simp only [sx2, encs, sxR, sevalprocAttr] <;> (try simp) <;> (try omega)) ?_ ?_
  ·exact ⟨by omega, rfl⟩
  rintro k ⟨hk, ht⟩
  simp only [↓sx0, sxE, encs, sevalprocAttr]
  refine BrW.dec (fun hlt => ?_) (fun hlt => ?_)
  ·simp only [↓sx0, sxE, encs, sevalprocAttr]
   have hlt : k < l.length := by omega
   have he := partsE_at hlt ht
   refine IxW.nat hlt ?_
   simp only [↓sx0, sxE, encs, sevalprocAttr]
   refine CallI.fn (checkPart_s b2 l[k]) (by simp only [sx3, encs, sxR, sevalprocAttr] <;> (try simp) <;> (try rfl)) ?_
   simp only [↓sx0, sxE, encs, sevalprocAttr]
   refine BrW.dec (fun hp => ?_) (fun hp => ?_)
   ·simp only [↓sx0, sxE, encs, sevalprocAttr]
    rw [if_neg hp] at he
    rw [he]
    refine EndW.fn ?_ ?_ <;> simp only [sx4, encs, kpLL_map, sxR, sevalprocAttr] <;> (try simp) <;> (try omega)
   ·simp only [↓sx0, sxE, encs, sevalprocAttr]
    rw [if_pos (Decidable.not_not.1 hp)] at he
    repeat ((with_reducible refine Vc.go ?_ fun _ => ?_); (focus (first | omega | (simp only [InK]; omega) | (simp [InK]; done) | (simp [InK]; omega))); simp only [↓sx0, sxE, encs, sevalprocAttr])
    refine ⟨k + 1, StLe.auto (by simp only [sx2, encs, sxR, sevalprocAttr] <;> (try simp) <;> (try omega)), ?_, ?_⟩
    ·exact ⟨hlt, he.symm⟩
    ·omega
  ·simp only [↓sx0, sxE, encs, sevalprocAttr]
   have hke : k = l.length := by omega
   subst hke
   rw [List.drop_length] at ht
   rw [← ht]
   refine EndW.fn ?_ ?_ <;> simp only [sx4, encs, kpLL_map, sxR, sevalprocAttr] <;> (try simp [partsE]) <;> (try omega)
theorem checkCopy_s (b b2 : Bool) (l : List Pt) : Ctr Tryz.prog 26 [.sl b 2 (l.map (eP b2))] (fun rr => rr = ⟨(.v (.int .i64 ((partsErr l).2))), []⟩) := by
 refine Ctr.of (rs := [.tmp 2]) Tok true Tryz.func26 rfl rfl rfl rfl (by simp [ofDL]) (fun w0 kp => ?_)
 simp only [↓sx0, sxE, encs, sevalprocAttr]
 refine CallI.fn (checkParts_s b b2 l) (by simp only [sx3, encs, sxR, sevalprocAttr] <;> (try simp) <;> (try rfl)) ?_
 simp only [↓sx0, sxE, encs, sevalprocAttr]
 refine EndW.fn ?_ ?_ <;> simp only [sx4, encs, kpLL_map, sxR, sevalprocAttr] <;> (try simp) <;> (try omega)
end Go.Proofs.YthkkcemefngeiaaGreat
/-
 Chapter 8, walks: a copy in memory of its own, with the words of one part still own.
-/
namespace Go.Proofs.YthkkcemefngeiaaGreat
open Go Go.Vx
set_option linter.unusedSimpArgs false
set_option linter.unusedVariables false
set_option maxRecDepth 20000
theorem cloneS_s (b : Bool) (els : List (List D)) (hk : kpLL els) (hl : els.length ≤ 1000000) : Ctr Tryz.prog 64 [.sl b 1 els] (fun rr => rr = ⟨.row 0, [.own 9 1 els]⟩) := by
 refine Ctr.of (rs := [.tmp 2]) Tok false Tryz.func64 rfl rfl rfl rfl (by simp [ofDL]) (fun w0 kp => ?_)
 simp only [↓sx0, sxE, encs, sevalprocAttr]
 intro z hz
 refine BrW.of (fun h => ?_) (fun h => ?_)
 ·simp only [↓sx0, sxE, encs, sevalprocAttr]
  rw [hz h]
  exact EndW.r [none] (by simp) (by simp only [sx4, sxF, encs, kpLL_map, sxR, sevalprocAttr] <;> simp) (by simp only [sx4, sxF, encs, kpLL_map, sxR, sevalprocAttr] <;> simp) (by simp only [sx4, sxF, encs, kpLL_map, sxR, sevalprocAttr] <;> simp) (by simp only [sx4, sxF, encs, kpLL_map, sxR, sevalprocAttr] <;> simp)
 ·simp only [↓sx0, sxE, encs, sevalprocAttr]
  (with_reducible refine Vc.go ?_ fun _ => ?_); focus (first | omega | (simp only [InK]; omega) | (simp [InK]; done) | (simp [InK]; omega))
  simp only [↓sx0, sxE, encs, sevalprocAttr]
  exact EndW.r [some 1] (by simp) (by simp only [sx4, sxF, encs, kpLL_map, sxR, sevalprocAttr] <;> simp [hk]) (by simp only [sx4, sxF, encs, kpLL_map, sxR, sevalprocAttr] <;> simp [hk]) (by simp only [sx4, sxF, encs, kpLL_map, sxR, sevalprocAttr] <;> simp [hk]) (by simp only [sx4, sxF, encs, kpLL_map, sxR, sevalprocAttr] <;> simp [hk])
theorem kpS (l : List ByteArray) : kpLL (l.map eS) := by simp [kpLL_map, eS, kpL, kpD]
theorem kpP (l : List Pt) : kpLL (l.map (eP true)) := by simp [kpLL_map, eP, eS, kpL, kpD]
/-- the parts so far; of part i the words are own, the value is 'u'. -/
def elsA (l : List Pt) (i : Nat) (u : Value) : List (List D) := (l.map (eP true)).set i [.v (.int .i64 (l.getD i ⟨0, []⟩).kind), .v u]
theorem elsA_first {l : List Pt} {i : Nat} (hi : i < l.length) (u : Value) : ((l.take i).map (eP true)) ++ [[.v (.int .i64 l[i].kind), .v u]] = elsA (l.take (i + 1)) i u := by
 unfold elsA
 rw [List.take_succ_eq_append_getElem hi, List.map_append, List.set_append_right _ _ (by simp; omega)]
 have : (List.take i l ++ [l[i]]).getD i ⟨0, []⟩ = l[i] := by
  rw [List.getD_eq_getElem?_getD, List.getElem?_append_right (by simp; omega)]
  simp [show i - min i l.length = 0 by omega]
 rw [this]
 simp [show i - min i l.length = 0 by omega]
theorem elsA_next {l : List Pt} {i k : Nat} (hi : i < k) (hk : k < l.length) (u : Value) : elsA (l.take k) i u ++ [eP true l[k]] = elsA (l.take (k + 1)) i u := by
 unfold elsA
 rw [List.take_succ_eq_append_getElem hk, List.map_append, List.set_append_left _ _ (by simp; omega)]
 have : (List.take k l ++ [l[k]]).getD i ⟨0, []⟩ = (List.take k l).getD i ⟨0, []⟩ := by
  simp only [List.getD_eq_getElem?_getD]
  rw [List.getElem?_append_left (by simp; omega)]
 rw [this]
 rfl
theorem kpA (l : List Pt) (i : Nat) (u : Value) : kpLL (elsA l i u) := by
 rw [kpLL_all]
 intro e he
 rcases List.mem_or_eq_of_mem_set he with h | h
 ·have := kpP l; rw [kpLL_all] at this; exact this e h
 ·subst h; simp [kpL, kpD]
def gA (i k : Nat) : Option Value → SV
 | none => if k = i then .arm else .any
 | some u => .ali 1 u
def rwA (l : List Pt) (i k : Nat) : Option Value → List Rw
 | none => [.own 65 2 ((l.take k).map (eP true))]
 | some u => [.own 65 2 (elsA (l.take k) i u), .own 9 1 ((l.getD i ⟨0, []⟩).words.map eS)]
def JA (l : List Pt) (i k : Nat) : Option Value → Prop
 | none => k ≤ i
 | some u => i < k ∧ k ≤ l.length ∧ ∃ ad n c, u = .slice (some ad) n c
set_option maxHeartbeats 4000000 in
theorem clone_s (b b2 : Bool) (l : List Pt) (i : Nat) (hl : l.length ≤ 1000) (hi : i < l.length) (hw : ∀ p ∈ l, p.words.length ≤ 1000) (hn : 0 < l[i].words.length) :
  CtrA Tryz.prog 49 [.sl b 2 (l.map (eP b2))] (fun r k u => k = 1 ∧ (∃ ad n c, u = .slice (some ad) n c) ∧ r = ⟨.row 0, [.own 65 2 (elsA l i u), .own 9 1 (l[i].words.map eS)]⟩) := by
 refine CtrA.of (rs := [.tmp 2]) Tok Tryz.func49 rfl rfl rfl rfl (by simp [ofDL]) (fun w0 kp => ?_)
 simp only [↓sx0, sxE, encs, sevalprocAttr]
 have wl : ∀ k (h : k < l.length), (l[k].words.map eS).length ≤ 1000000 := fun k h => by have := hw _ (List.getElem_mem h); simp; omega
 refine LoopW.inv Tok (fun x : Nat × Option Value => ⟨[(3, .row 0), (8, (.v (.int .i64 x.1))), (6, .sl b 2 (l.map (eP b2))), (7, (.v (.int .i64 l.length))), (1000000, gA i x.1 x.2)], [], rwA l i x.1 x.2⟩) (fun x => JA l i x.1 x.2) (fun x => l.length - x.1) (0, none) (StLe.trans StLe.arm (StLe.auto ?_)) (Nat.zero_le i) ?_
 ·by_cases hz : 0 = i
  ·simp only [gA, rwA, if_pos hz, List.take_zero, List.map_nil]
   simp only [sx2, encs, sxR, sevalprocAttr] <;> (try simp) <;> (try omega)
  ·simp only [gA, rwA, if_neg hz, List.take_zero, List.map_nil]
   simp only [sx2, encs, sxR, sevalprocAttr] <;> (try simp) <;> (try omega)
 rintro ⟨k, _ | u⟩ hJ
 ·simp only [JA] at hJ
  have hkl : k < l.length := by omega
  by_cases hki : k = i
  ·subst hki
   simp only [gA, rwA, if_true]
   simp only [↓sx0, sxE, encs, sevalprocAttr]
   refine BrW.yes (by omega) ?_
   simp only [↓sx0, sxE, encs, sevalprocAttr]
   refine IxW.nat hkl ?_
   simp only [↓sx0, sxE, encs, sevalprocAttr]
   refine DrawW.plan Tok mixed (.q 0 <| .q 1 <| .q 2 <| .q 3 <| .q 4 <| .e 5 [2] <| .q 6 <| .e 7 [] <| .e 8 [] <| .q 9 <| .done) (by kernel_rfl) (by kernel_rfl) ?_
   simp only [↓sx0, sxE, encs, sevalprocAttr]
   refine CallI.ctr (cloneS_s b2 _ (kpS l[k].words) (wl k hkl)) (by simp only [sx3, encs, sxR, sevalprocAttr] <;> (try simp) <;> (try rfl)) ?_
   rintro _ rfl
   simp only [↓sx0, sxE, encs, sevalprocAttr]
   (with_reducible refine Vc.go ?_ fun _ => ?_)
   ·simpa using hn
   intro ad n0 c0
   simp only [↓sx0, sxE, encs, sevalprocAttr]
   repeat ((with_reducible refine Vc.go ?_ fun _ => ?_); (focus (first | omega | (simp only [InK]; omega) | (simp [InK]; done) | (simp [InK]; omega))); simp only [↓sx0, sxE, encs, sevalprocAttr])
   refine ⟨(k + 1, some (.slice (some ad) n0 c0)), StLe.auto ?_, ⟨by omega, by omega, ad, n0, c0, rfl⟩, by simp only; omega⟩
   have hf := elsA_first hkl (.slice (some ad) n0 c0)
   have hgd : l.getD k ⟨0, []⟩ = l[k] := by simp [List.getD_eq_getElem?_getD, hkl]
   simp only [gA, rwA, hgd, ← hf]
   simp only [sx2, encs, sxR, sevalprocAttr] <;> (try simp) <;> (try omega)
  ·simp only [gA, rwA, if_neg hki]
   simp only [↓sx0, sxE, encs, sevalprocAttr]
   refine BrW.yes (by omega) ?_
   simp only [↓sx0, sxE, encs, sevalprocAttr]
   refine IxW.nat hkl ?_
   simp only [↓sx0, sxE, encs, sevalprocAttr]
   refine DrawW.plan Tok mixed (.q 0 <| .q 1 <| .q 2 <| .q 3 <| .q 4 <| .e 5 [2] <| .q 6 <| .e 7 [] <| .e 8 [] <| .q 9 <| .done) (by kernel_rfl) (by kernel_rfl) ?_
   simp only [↓sx0, sxE, encs, sevalprocAttr]
   refine CallI.ctr (cloneS_s b2 _ (kpS l[k].words) (wl k hkl)) (by simp only [sx3, encs, sxR, sevalprocAttr] <;> (try simp) <;> (try rfl)) ?_
   rintro _ rfl
   simp only [↓sx0, sxE, encs, sevalprocAttr]
   repeat ((with_reducible refine Vc.go ?_ fun _ => ?_); (focus (first | omega | (simp only [InK]; omega) | (simp [InK]; done) | (simp [InK]; omega))); simp only [↓sx0, sxE, encs, sevalprocAttr])
   refine ⟨(k + 1, none), StLe.trans StLe.arm (StLe.auto ?_), (by simp only [JA]; omega), by simp only; omega⟩
   have hf : (l.take k).map (eP true) ++ [eP true l[k]] = (l.take (k + 1)).map (eP true) := by rw [List.take_succ_eq_append_getElem hkl, List.map_append]; rfl
   by_cases hz : k + 1 = i
   ·simp only [gA, rwA, if_pos hz, ← hf]
    simp only [sx2, encs, sxR, sevalprocAttr] <;> (try simp) <;> (try omega)
   ·simp only [gA, rwA, if_neg hz, ← hf]
    simp only [sx2, encs, sxR, sevalprocAttr] <;> (try simp) <;> (try omega)
 ·obtain ⟨h1, h2, ad, n0, c0, rfl⟩ := hJ
  have hgd : l.getD i ⟨0, []⟩ = l[i] := by simp [List.getD_eq_getElem?_getD, hi]
  simp only [gA, rwA, hgd]
  simp only [↓sx0, sxE, encs, sevalprocAttr]
  refine BrW.dec (fun hlt => ?_) (fun hlt => ?_)
  ·simp only [↓sx0, sxE, encs, sevalprocAttr]
   have hkl : k < l.length := by omega
   have hel : (elsA (l.take k) i (.slice (some ad) n0 c0)).length ≤ 1000 := by simp [elsA]; omega
   refine IxW.nat hkl ?_
   simp only [↓sx0, sxE, encs, sevalprocAttr]
   refine DrawW.plan Tok mixed (.q 0 <| .q 1 <| .q 2 <| .q 3 <| .q 4 <| .e 5 [2] <| .q 6 <| .e 7 [] <| .e 8 [] <| .q 9 <| .done) (by kernel_rfl) (by kernel_rfl) ?_
   simp only [↓sx0, sxE, encs, sevalprocAttr]
   refine CallI.ctr (cloneS_s b2 _ (kpS l[k].words) (wl k hkl)) (by simp only [sx3, encs, sxR, sevalprocAttr] <;> (try simp) <;> (try rfl)) ?_
   rintro _ rfl
   simp only [↓sx0, sxE, encs, sevalprocAttr]
   repeat ((with_reducible refine Vc.go ?_ fun _ => ?_); (focus (first | omega | (simp only [InK]; omega) | (simp [InK]; done) | (simp [InK]; omega))); simp only [↓sx0, sxE, encs, sevalprocAttr])
   refine ⟨(k + 1, some (.slice (some ad) n0 c0)), StLe.auto ?_, ⟨by simp only; omega, by simp only; omega, ad, n0, c0, rfl⟩, by simp only; omega⟩
   have hf := elsA_next (l := l) h1 hkl (.slice (some ad) n0 c0)
   simp only [gA, rwA, hgd, ← hf]
   simp only [sx2, encs, sxR, sevalprocAttr] <;> (try simp) <;> (try omega)
  ·simp only [↓sx0, sxE, encs, sevalprocAttr]
   have hke : k = l.length := by simp only at h2; omega
   subst hke
   rw [List.take_length]
   refine ⟨[some 0, some 1], ⟨.row 0, [.own 65 2 (elsA l i (.slice (some ad) n0 c0)), .own 9 1 (l[i].words.map eS)]⟩, 1, .slice (some ad) n0 c0, ⟨rfl, ⟨ad, n0, c0, rfl⟩, rfl⟩, by simp, ?_, ?_, ?_, ?_, ?_⟩
   all_goals (
    simp only [sxL, sxF, sxG, sxY, sxH, sxU, encs, sxN, sevalprocAttr, ne_eq, decide_true, decide_false]
    try simp [kpA, kpS] )
end Go.Proofs.YthkkcemefngeiaaGreat
/-
 Chapter 8: words are put in between, by the library's own contract.
-/
namespace Go.Proofs.YthkkcemefngeiaaGreat
open Go Go.Vx Go.Shelf Go.RowKit
set_option linter.unusedSimpArgs false
set_option linter.unusedVariables false
def rIns : Ren := ⟨fun | 22 => 63 | 29 => 82 | 30 => 83 | 36 => 105 | 17 => 115 | n => n, fun | 24 => 59 | 9 => 9 | 3 => 3 | 4 => 4 | 0 => 0 | n => n, fun n => n⟩
set_option maxRecDepth 100000 in
theorem laysIns : Lays2.n22 Tryz.prog rIns := { mixed := rfl, f17 := Tryz.func115, f22 := Tryz.func63, f29 := Tryz.func82, f30 := Tryz.func83, f36 := Tryz.func105, t0 := Tryz.underlying0, a0 := Tryz.isAgg0, z0 := Tryz.sizeOf0, v0 := Tryz.zeroValue0, t3 := Tryz.underlying3, a3 := Tryz.isAgg3, z3 := Tryz.sizeOf3, v3 := Tryz.zeroValue3, t4 := Tryz.underlying4, a4 := Tryz.isAgg4, z4 := Tryz.sizeOf4, v4 := Tryz.zeroValue4, t9 := Tryz.underlying9, a9 := Tryz.isAgg9, z9 := Tryz.sizeOf9, v9 := Tryz.zeroValue9, t24 := Tryz.underlying59, a24 := Tryz.isAgg59, z24 := Tryz.sizeOf59, v24 := Tryz.zeroValue59, i9 := rfl }
def vS (l : List ByteArray) : List Value := l.map Value.string
theorem rdLL_str {μ : Mu} : ∀ {l : List ByteArray} {vss : List (List Value)}, RdLL μ (l.map eS) vss → vss.flatten = vS l ∧ vss.length = l.length
 | [], [], _ => ⟨rfl, rfl⟩
 | x :: l, vs :: vss, h => by
  simp only [List.map_cons, RdLL, eS] at h
  obtain ⟨h1, h2⟩ := h
  match vs, h1 with
  | [v], h1 =>
   simp only [RdL, Rd] at h1
   obtain ⟨k1, k2⟩ := rdLL_str h2
   exact ⟨by simp [k1, vS, h1.1.1], by simp [k2]⟩
  | [], h1 => simp [RdL] at h1
  | _ :: _ :: _, h1 => simp [RdL] at h1
 | [], _ :: _, h => by simp [RdLL] at h
 | _ :: _, [], h => by simp [RdLL] at h
theorem rdLL_of {μ : Mu} : ∀ l : List ByteArray, RdLL μ (l.map eS) (l.map fun s => [Value.string s])
 | [] => by simp [RdLL]
 | x :: l => by simp only [List.map_cons, RdLL, eS, RdL, Rd]; exact ⟨⟨⟨trivial, rfl⟩, trivial⟩, rdLL_of l⟩
theorem fl_str (l : List ByteArray) : (l.map fun s => [Value.string s]).flatten = vS l := by
 induction l with
 | nil => rfl
 | cons x l ih => simp [ih, vS]
/-- an own row of texts. -/
theorem rowOk_str {μ : Mu} {base : Nat} {w : World} {v : Value} {e : TypeId} {l : List ByteArray} : RowOk μ base w v e 1 (l.map eS) ↔ w.ownsRow base e 1 v l.length (vS l) := by
 constructor
 ·intro h
  obtain ⟨_, vss, h1, h2, h3⟩ := h.tab (by decide)
  obtain ⟨k1, k2⟩ := rdLL_str h3
  rwa [k1, k2] at h1
 ·intro h
  exact .inl ⟨by decide, l.map fun s => [Value.string s], by rw [fl_str, List.length_map]; exact h, by simp, rdLL_of l⟩
theorem vS_len (l : List ByteArray) : (vS l).length = l.length := by simp [vS]
theorem vS_one (l : List ByteArray) : ∀ v ∈ vS l, v.oneCell' = true := fun v hv => by
 obtain ⟨s, _, rfl⟩ := List.mem_map.1 hv; rfl
/-- what stands after an insertion in place. -/
theorem ins_list {L A B R : List Value} {r0 t : Value} (hL : L = A ++ (B ++ r0 :: R)) : (updV (updV L (A.length + 1) B) A.length [t]).take (A.length + B.length + 1) = A ++ t :: B := by
 have hl : L.length = A.length + B.length + 1 + R.length := by rw [hL]; simp; omega
 apply List.ext_getElem?
 intro k
 simp only [updV, List.getElem?_take, List.getElem?_append, List.getElem?_drop, List.length_append, List.length_take, List.length_drop, List.length_singleton, hl]
 have e1 : min (A.length + 1) (A.length + B.length + 1 + R.length) = A.length + 1 := by omega
 have e2 : min A.length (A.length + 1 + B.length + (A.length + B.length + 1 + R.length - (A.length + 1 + B.length))) = A.length := by omega
 simp only [e1, e2]
 by_cases q1 : k < A.length
 ·rw [hL]
  simp [q1, show k < A.length + 1 by omega, show k < A.length + B.length + 1 by omega, show k < A.length + 1 + B.length by omega, List.getElem?_append]
 ·by_cases q2 : k = A.length
  ·subst q2
   simp
   omega
  ·by_cases q3 : k < A.length + B.length + 1
   ·obtain ⟨m, rfl⟩ : ∃ m, k = A.length + 1 + m := ⟨k - (A.length + 1), by omega⟩
    simp [q3, show ¬ A.length + 1 + m < A.length by omega, show A.length + 1 + m - A.length = m + 1 by omega, show ¬ A.length + 1 + (A.length + 1 + m - (A.length + 1)) < A.length + 1 by omega, show m < B.length by omega, show A.length + 1 + m - (A.length + 1) = m by omega, show ¬ m + 1 < 1 by omega, Nat.add_assoc]
    rw [if_pos (by omega), if_neg (by omega), show 1 + m = m + 1 by omega, List.getElem?_cons_succ]
    congr 1
    omega
   ·obtain ⟨m, rfl⟩ : ∃ m, k = A.length + B.length + 1 + m := ⟨k - (A.length + B.length + 1), by omega⟩
    rw [if_neg q3, if_neg (by omega), show A.length + B.length + 1 + m - A.length = (B.length + m) + 1 by omega, List.getElem?_cons_succ, List.getElem?_eq_none (by omega)]
theorem updV_at (A M R vs : List Value) (h : M.length = vs.length) : updV (A ++ (M ++ R)) A.length vs = A ++ (vs ++ R) := by
 unfold updV
 rw [List.take_left, ← h, ← List.drop_drop, List.drop_left, List.drop_left, List.append_assoc]
theorem insert_s (l : List ByteArray) (i : Nat) (t : ByteArray) (hi : i < l.length) (hl : l.length ≤ 1000000) : Turn2 Tryz.prog 63 9 1 (l.map eS) (.int .i64 (i : Int)) 9 1 [[.v (.string t)]] ((l.take i ++ t :: l.drop i).map eS) := by
 refine ⟨⟨_, Tryz.func63, rfl, rfl⟩, fun μ w base v u hb hv hu hne => ?_⟩
 have hu : RowOk μ base w u 9 1 ([t].map eS) := hu
 rw [rowOk_str] at hv hu
 obtain ⟨_, ⟨_, h0⟩ | ⟨ub, uc, ucur, rfl, ub1, ub2, ub3, ub4, ub5, ub6⟩⟩ := hu
 ·simp at h0
 obtain ⟨_, ⟨_, h0⟩ | ⟨b, c, cur, rfl, vb1, vb2, vb3, vb4, vb5, vb6⟩⟩ := hv
 ·omega
 simp only [Nat.mul_one] at vb5 vb6 ub5 ub6
 have hbu : ub ≠ b := fun h => hne b rfl (by rw [h]; rfl)
 have hvs : ∀ (j : Nat) (x : Value), (vS [t])[j]? = some x → w.cell? ⟨ub, 0 + j, none⟩ = some x := fun j x hj => by
  simp only [World.cell?, ub2, Nat.zero_add, Option.isSome_none, Bool.false_eq_true, if_false]
  rw [← ub6, List.getElem?_take] at hj
  split at hj
  ·simpa using hj
  ·cases hj
 have hcs : ∀ (j : Nat) (x : Value), (vS l)[j]? = some x → w.cell? ⟨b, 0 + j, none⟩ = some x := fun j x hj => by
  simp only [World.cell?, vb2, Nat.zero_add, Option.isSome_none, Bool.false_eq_true, if_false]
  rw [← vb6, List.getElem?_take] at hj
  split at hj
  ·simpa using hj
  ·cases hj
 have hA : (vS l).take i = vS (l.take i) := by simp [vS, List.map_take]
 have hB : (vS l).drop i = vS (l.drop i) := by simp [vS, List.map_drop]
 have hlen : (l.take i).length = i := by rw [List.length_take]; omega
 have hlen2 : (l.drop i).length = l.length - i := by simp
 have hres : vS (l.take i ++ t :: l.drop i) = vS (l.take i) ++ Value.string t :: vS (l.drop i) := by simp [vS]
 have hrl : (l.take i ++ t :: l.drop i).length = l.length + 1 := by simp; omega
 by_cases hroom : l.length + 1 ≤ c
 ·have hsp : ∀ j, j < l.length + 1 → (w.cell? ⟨b, 0 + j, none⟩).isSome = true := fun j hj => by
   simp only [World.cell?, vb2, Nat.zero_add, Option.isSome_none, Bool.false_eq_true, if_false]
   simp; omega
  have h := Any2.slices_Insert_string_shift laysIns b 0 l.length c i ub 0 1 uc (vS l) (vS [t]) w hi (by decide) hroom (by simp only [maxLen] at vb4; omega) hbu (vS_len l) rfl hcs hsp (fun j _ => by simp [World.frozen?, vb2]) hvs (vS_one l) (vS_one [t]) 9 9 uc c (by simp [World.shape?, ub2, ub5]) (by simp [World.shape?, vb2, vb5]) (by omega) (by simp [World.frozen?, ub2]) (by simp [World.frozen?, ub2])
  refine Calls.mono h ?_
  rintro en w' ⟨rfl, rfl⟩
  obtain ⟨c1, k1, k2⟩ := setCells_heap ((vS l).drop i) (0 + (i + 1)) w.drew cur (t := 9) (fz := (0, 0)) vb2 (by simp [vS]; omega)
  have k2l : c1.size = c := by rw [← Array.length_toList, k2, updV_len (by simp [vS]; omega)]; simp [vb5]
  obtain ⟨c2, k3, k4⟩ := setCells_heap (vS [t]) (0 + i) _ c1 k1 (by simp [vS]; omega)
  have k4l : c2.size = c := by rw [← Array.length_toList, k4, updV_len (by simp [vS]; omega)]; simp [k2l]
  obtain ⟨o1, o2, o3, o4⟩ := setCells_rest w.drew b (0 + (i + 1)) ((vS l).drop i)
  obtain ⟨p1, p2, p3, p4⟩ := setCells_rest (w.drew.setCells b (0 + (i + 1)) ((vS l).drop i)) b (0 + i) (vS [t])
  refine ⟨_, rfl, ?_, ⟨_, _, _, rfl⟩, ⟨p1.trans o1, p2.trans o2, p3.trans o3, by rw [p4, o4]; exact Nat.le_refl _, fun x hx hxb => ?_, fun x hx => .inl hx⟩⟩
  ·rw [rowOk_str]
   refine ⟨by rw [vS_len, Nat.mul_one], .inr ⟨b, c, c2, by rw [hrl], vb1, k3, by rw [hrl]; exact hroom, vb4, by rw [Nat.mul_one]; exact k4l, ?_⟩⟩
   obtain ⟨r0, R, hR⟩ : ∃ r0 R, cur.toList.drop l.length = r0 :: R := by
    cases hd : cur.toList.drop l.length with
    | nil => have := congrArg List.length hd; simp at this; omega
    | cons a b => exact ⟨a, b, rfl⟩
   have hcur : cur.toList = vS (l.take i) ++ (vS (l.drop i) ++ r0 :: R) := by
    rw [← List.append_assoc, ← hA, ← hB, List.take_append_drop, ← hR, ← vb6, List.take_append_drop]
   have := ins_list (t := Value.string t) hcur
   rw [vS_len, vS_len, hlen, hlen2] at this
   rw [k4, k2, hrl, Nat.mul_one, hres, hB, Nat.zero_add, Nat.zero_add, show l.length + 1 = i + (l.length - i) + 1 by omega]
   exact this
  ·rw [World.heap_setCells_other _ _ _ _ (by rw [o4]; exact hx) (fun e => hxb (by rw [e]; rfl))]
   exact World.heap_setCells_other w.drew b _ _ hx (fun e => hxb (by rw [e]; rfl))
 ·have h := Any2.slices_Insert_string_grow laysIns b 0 l.length c i ub 0 1 uc (vS l) (vS [t]) w hi (by decide) vb3 (by omega) (by omega) (vS_len l) rfl hcs hvs (vS_one l) (vS_one [t])
  refine Calls.mono h ?_
  generalize hZ1 : Builtin.zeroCells (Value.string ⟨#[]⟩).cells (l.length + 1 - i) = Z1
  generalize hZ2 : Builtin.zeroCells (Value.string ⟨#[]⟩).cells (grownCap w (l.length + 1) c (rIns.t 9) - (l.length + 1)) = Z2
  have hge := grownCap_ge w (l.length + 1) c (rIns.t 9)
  have hle := grownCap_le_maxLen w (l.length + 1) c (rIns.t 9) (by simp only [maxLen]; omega)
  have z1 : Z1.size = l.length + 1 - i := by rw [← hZ1, size_zeroCells]; simp [Value.cells]
  have z2 : Z2.size = grownCap w (l.length + 1) c (rIns.t 9) - (l.length + 1) := by rw [← hZ2, size_zeroCells]; simp [Value.cells]
  generalize grownCap w (l.length + 1) c (rIns.t 9) = C2 at hge hle z2 ⊢
  rintro en w' ⟨rfl, rfl⟩
  have hc0 : (((vS l).take i).toArray ++ Z1 ++ Z2).size = C2 := by simp [z1, z2, vS]; omega
  have hcl : (((vS l).take i).toArray ++ Z1 ++ Z2).toList.length = C2 := by rw [Array.length_toList]; exact hc0
  have hN := heap_alloc_new w (.cells (((vS l).take i).toArray ++ Z1 ++ Z2) 9)
  obtain ⟨c1, k1, k2⟩ := setCells_heap (vS [t]) i (w.alloc (.cells (((vS l).take i).toArray ++ Z1 ++ Z2) 9)).drew _ (t := 9) (fz := (0, 0)) hN (by rw [hc0]; simp [vS]; omega)
  have k2l : c1.size = C2 := by rw [← Array.length_toList, k2, updV_len (by rw [hcl]; simp [vS]; omega), hcl]
  obtain ⟨c2, k3, k4⟩ := setCells_heap ((vS l).drop i) (i + 1) ((w.alloc (.cells (((vS l).take i).toArray ++ Z1 ++ Z2) 9)).drew.setCells w.heap.size i (vS [t])).drew c1 k1 (by rw [k2l]; simp [vS]; omega)
  have k4l : c2.size = C2 := by rw [← Array.length_toList, k4, updV_len (by rw [show c1.toList.length = C2 by rw [Array.length_toList]; exact k2l]; simp [vS]; omega), Array.length_toList, k2l]
  obtain ⟨o1, o2, o3, o4⟩ := setCells_rest (w.alloc (.cells (((vS l).take i).toArray ++ Z1 ++ Z2) 9)).drew w.heap.size i (vS [t])
  obtain ⟨p1, p2, p3, p4⟩ := setCells_rest ((w.alloc (.cells (((vS l).take i).toArray ++ Z1 ++ Z2) 9)).drew.setCells w.heap.size i (vS [t])).drew w.heap.size (i + 1) ((vS l).drop i)
  have hBel : Below w.heap.size w (w.alloc (.cells (((vS l).take i).toArray ++ Z1 ++ Z2) 9)) := (Below.refl _ _).alloc (Nat.le_refl _) _
  refine ⟨_, rfl, ?_, ⟨_, _, _, rfl⟩, ⟨p1.trans (o1.trans hBel.os), p2.trans (o2.trans hBel.tape), p3.trans (o3.trans hBel.output), ?_, fun x hx hxb => ?_, fun x hx => .inr ?_⟩⟩
  ·rw [rowOk_str]
   refine ⟨by rw [vS_len, Nat.mul_one], .inr ⟨w.heap.size, C2, c2, by rw [hrl], hb, k3, by rw [hrl]; exact hge, hle, by rw [Nat.mul_one]; exact k4l, ?_⟩⟩
   rw [k4, k2, hrl, Nat.mul_one, hres, hB]
   have hZ : (Z1 ++ Z2).toList = Z1.toList.take 1 ++ (Z1.toList.drop 1 ++ Z2.toList) := by
    rw [Array.toList_append, ← List.append_assoc, List.take_append_drop]
   have e1 : (((vS l).take i).toArray ++ Z1 ++ Z2).toList = vS (l.take i) ++ (Z1.toList.take 1 ++ (Z1.toList.drop 1 ++ Z2.toList)) := by
    rw [Array.append_assoc, Array.toList_append, hZ, hA]
   have hz11 : (Z1.toList.take 1).length = (vS [t]).length := by simp [vS, z1]; omega
   have hi2 : i = (vS (l.take i)).length := by rw [vS_len, hlen]
   have e2 : updV (((vS l).take i).toArray ++ Z1 ++ Z2).toList i (vS [t]) = (vS (l.take i) ++ vS [t]) ++ (Z1.toList.drop 1 ++ Z2.toList) := by
    rw [e1]
    conv => lhs; arg 2; rw [hi2]
    rw [updV_at _ _ _ _ hz11, List.append_assoc]
   rw [e2]
   have e3 : updV ((vS (l.take i) ++ vS [t]) ++ (Z1.toList.drop 1 ++ Z2.toList)) (i + 1) (vS (l.drop i)) = (vS (l.take i) ++ vS [t]) ++ (vS (l.drop i) ++ Z2.toList) := by
    have := updV_at (vS (l.take i) ++ vS [t]) (Z1.toList.drop 1) Z2.toList (vS (l.drop i)) (by rw [vS_len, hlen2]; simp [z1]; omega)
    rwa [show (vS (l.take i) ++ vS [t]).length = i + 1 by rw [List.length_append, vS_len, hlen]; rfl] at this
   rw [e3, ← List.append_assoc, List.take_left' (by simp [vS]; omega)]
   simp [vS]
  ·exact Nat.le_trans (Nat.le_trans hBel.size (Nat.le_of_eq o4.symm)) (Nat.le_of_eq p4.symm)
  ·have q1 : x < ((w.alloc (.cells (((vS l).take i).toArray ++ Z1 ++ Z2) 9)).drew.setCells w.heap.size i (vS [t])).drew.heap.size := Nat.lt_of_lt_of_le (Nat.lt_of_lt_of_le hx hBel.size) (Nat.le_of_eq o4.symm)
   have q2 := World.heap_setCells_other ((w.alloc (.cells (((vS l).take i).toArray ++ Z1 ++ Z2) 9)).drew.setCells w.heap.size i (vS [t])).drew w.heap.size (i + 1) ((vS l).drop i) q1 (by omega)
   have q3 := World.heap_setCells_other (w.alloc (.cells (((vS l).take i).toArray ++ Z1 ++ Z2) 9)).drew w.heap.size i (vS [t]) (Nat.lt_of_lt_of_le hx hBel.size) (by omega)
   exact q2.trans (q3.trans (hBel.block x hx))
  ·simp only [ob, Value.ownBlock, Option.some.injEq] at hx
   omega
end Go.Proofs.YthkkcemefngeiaaGreat
/-
 Chapter 8, walks: pairs that are kept (the table).
-/
namespace Go.Proofs.YthkkcemefngeiaaGreat
open Go Go.Vx
set_option linter.unusedSimpArgs false
set_option linter.unusedVariables false
set_option maxRecDepth 20000
/-- the pairs that two lists have at most. -/
def lcsA (x : Int) (f : List Int → Nat) : List Int → Nat
 | [] => 0
 | y :: b => if x = y then max (max (f (y :: b)) (lcsA x f b)) (f b + 1) else max (f (y :: b)) (lcsA x f b)
def lcsL : List Int → List Int → Nat
 | [], _ => 0
 | x :: a, b => lcsA x (lcsL a) b
theorem lcsL_nil (a : List Int) : lcsL a [] = 0 := by cases a <;> simp [lcsL, lcsA]
theorem lcsL_cons (x y : Int) (a b : List Int) : lcsL (x :: a) (y :: b) = if x = y then max (max (lcsL a (y :: b)) (lcsL (x :: a) b)) (lcsL a b + 1) else max (lcsL a (y :: b)) (lcsL (x :: a) b) := rfl
theorem lcsL_le (a : List Int) : ∀ b, lcsL a b ≤ a.length := by
 induction a with
 | nil => intro b; simp [lcsL]
 | cons x a ih =>
  intro b
  induction b with
  | nil => simp [lcsL_nil]
  | cons y b ihb =>
   rw [lcsL_cons]
   have h1 := ih (y :: b)
   have h2 := ih b
   simp only [List.length_cons] at ihb ⊢
   split <;> omega
def tl (a b : List Int) (i j : Nat) : Int := (lcsL (a.drop i) (b.drop j) : Nat)
theorem tl_end1 {a b : List Int} (j : Nat) : tl a b a.length j = 0 := by simp [tl, lcsL]
theorem tl_end2 {a b : List Int} (i : Nat) : tl a b i b.length = 0 := by simp [tl, lcsL_nil]
theorem tl_step {a b : List Int} {i j : Nat} (hi : i < a.length) (hj : j < b.length) : tl a b i j = if a[i] = b[j] then max (max (tl a b (i + 1) j) (tl a b i (j + 1))) (tl a b (i + 1) (j + 1) + 1) else max (tl a b (i + 1) j) (tl a b i (j + 1)) := by
 simp only [tl]
 rw [List.drop_eq_getElem_cons hi, List.drop_eq_getElem_cons hj, lcsL_cons]
 split <;> omega
theorem tl_b (a b : List Int) (i j : Nat) : 0 ≤ tl a b i j ∧ tl a b i j ≤ a.length := by
 have := lcsL_le (a.drop i) (b.drop j)
 simp only [List.length_drop] at this
 unfold tl; omega
/-- a row of the table -/
def rowT (a b : List Int) (i : Nat) : List Int := (List.range (b.length + 1)).map fun j => tl a b i j
/-- under way, from the end on; 'v' at place j. -/
def cT (a b : List Int) (i j : Nat) : List Int := (List.range (b.length + 1)).map fun k => if j ≤ k then tl a b i k else 0
def cV (a b : List Int) (i j : Nat) (v : Int) : List Int := (List.range (b.length + 1)).map fun k => if j < k then tl a b i k else if k = j then v else 0
theorem cT_zero (a b : List Int) (i : Nat) : cT a b i 0 = rowT a b i := by simp [cT, rowT]
theorem cT_end (a b : List Int) (i : Nat) : cT a b i b.length = List.replicate (b.length + 1) 0 := by
 apply List.ext_getElem
 ·simp [cT]
 ·intro k h1 h2
  simp only [cT, List.length_map, List.length_range] at h1
  simp only [cT, List.getElem_map, List.getElem_range, List.getElem_replicate]
  split
  ·rw [show k = b.length by omega, tl_end2]
  ·rfl
theorem cT_last (a b : List Int) : rowT a b a.length = List.replicate (b.length + 1) 0 := by
 apply List.ext_getElem
 ·simp [rowT]
 ·intro k h1 h2
  simp [rowT, tl_end1]
theorem cT_put (a b : List Int) (i j : Nat) (v : Int) : ((cT a b i (j + 1)).map eI).modify j (modE · 0 [.v (.int .i64 v)]) = (cV a b i j v).map eI := by
 apply List.ext_getElem
 ·simp [cT, cV]
 ·intro k h1 h2
  simp only [List.getElem_modify, List.getElem_map, cT, cV, List.getElem_range]
  by_cases hk : j = k
  ·subst hk; simp [modE, eI]
  ·rw [if_neg hk]
   by_cases h3 : j < k
   ·rw [if_pos (show j + 1 ≤ k by omega), if_pos h3]
   ·rw [if_neg (show ¬ j + 1 ≤ k by omega), if_neg h3, if_neg (show ¬ k = j by omega)]
theorem cV_put (a b : List Int) (i j : Nat) (u v : Int) : ((cV a b i j u).map eI).modify j (modE · 0 [.v (.int .i64 v)]) = (cV a b i j v).map eI := by
 apply List.ext_getElem
 ·simp [cV]
 ·intro k h1 h2
  simp only [List.getElem_modify, List.getElem_map, cV, List.getElem_range]
  by_cases hk : j = k
  ·subst hk; simp [modE, eI]
  ·rw [if_neg hk]
   by_cases h3 : j < k
   ·rw [if_pos h3, if_pos h3]
   ·rw [if_neg h3, if_neg h3, if_neg (show ¬ k = j by omega), if_neg (show ¬ k = j by omega)]
theorem cV_tl (a b : List Int) (i j : Nat) : cV a b i j (tl a b i j) = cT a b i j := by
 unfold cV cT
 apply List.map_congr_left
 intro k _
 by_cases h : j < k
 ·rw [if_pos h, if_pos (by omega)]
 ·rw [if_neg h]
  by_cases h2 : k = j
  ·subst h2; simp
  ·rw [if_neg h2, if_neg (by omega)]
theorem cT_get (a b : List Int) (i j k : Nat) (h : k < b.length + 1) (h2 : j ≤ k) : ((cT a b i j).map eI)[k]? = some (eI (tl a b i k)) := by
 rw [List.getElem?_map]
 simp [cT, List.getElem?_map, List.getElem?_range, h, h2]
theorem cV_get (a b : List Int) (i j : Nat) (v : Int) (h : j < b.length + 1) : ((cV a b i j v).map eI)[j]? = some (eI v) := by
 rw [List.getElem?_map]
 simp [cV, List.getElem?_map, List.getElem?_range, h]
theorem rowT_get (a b : List Int) (i k : Nat) (h : k < b.length + 1) : ((rowT a b i).map eI)[k]? = some (eI (tl a b i k)) := by
 rw [List.getElem?_map]
 simp [rowT, List.getElem?_map, List.getElem?_range, h]
/-- the table, with 'x' rows still to come. -/
def tabT (a b : List Int) (x : Nat) : List (List D) := (List.range (a.length + 1)).map fun r => if x ≤ r then [.sl true 1 ((rowT a b r).map eI)] else [.v (.slice none 0 0)]
theorem tabT_get {a b : List Int} {x r : Nat} (h : r < a.length + 1) : (tabT a b x)[r]? = some (if x ≤ r then [.sl true 1 ((rowT a b r).map eI)] else [.v (.slice none 0 0)]) := by
 simp [tabT, List.getElem?_map, List.getElem?_range, h]
theorem tabT_first (a b : List Int) : (List.replicate (a.length + 1) [D.v (.slice none 0 0)]).modify a.length (modE · 0 [.sl true 1 (List.replicate (b.length + 1) [.v (.int .i64 0)])]) = tabT a b a.length := by
 apply List.ext_getElem
 ·simp [tabT]
 ·intro k h1 h2
  simp only [List.getElem_modify, List.getElem_replicate, tabT, List.getElem_map, List.getElem_range]
  have hk : k < a.length + 1 := by simpa [tabT] using h2
  by_cases e : a.length = k
  ·subst e; simp [modE, cT_last, eI]
  ·rw [if_neg e, if_neg (by omega)]
theorem tabT_close {a b : List Int} {x : Nat} (hx : x < a.length) (y : List D) : (((tabT a b (x + 1)).modify x (modE · 0 y)).set x [.sl true 1 ((rowT a b x).map eI)]) = tabT a b x := by
 apply List.ext_getElem
 ·simp [tabT]
 ·intro k h1 h2
  simp only [List.getElem_set, List.getElem_modify, tabT, List.getElem_map, List.getElem_range]
  by_cases e : x = k
  ·subst e; simp
  ·rw [if_neg e, if_neg e]
   by_cases h3 : x + 1 ≤ k
   ·rw [if_pos h3, if_pos (by omega)]
   ·rw [if_neg h3, if_neg (by omega)]
set_option maxHeartbeats 8000000 in
theorem tails_s (b1 b2 : Bool) (a b : List Int) (ha : a.length ≤ 1000) (hb : b.length ≤ 1000) : Ctr Tryz.prog 25 [.sl b1 1 (a.map eI), .sl b2 1 (b.map eI)] (fun rr => rr = ⟨.sl true 1 (tabT a b 0), []⟩) := by
 refine Ctr.of (rs := [.tmp 4]) Tok true Tryz.func25 rfl rfl rfl rfl (by simp [ofDL]) (fun w0 kp => ?_)
 simp only [↓sx0, sxE, encs, sevalprocAttr]
 repeat ((with_reducible refine Vc.go ?_ fun _ => ?_); (focus (first | omega | (simp only [InK]; omega) | (simp [InK]; done) | (simp [InK]; omega))); simp only [↓sx0, sxE, encs, sevalprocAttr])
 have e1 : ((a.length : Int) + 1).toNat = a.length + 1 := by omega
 have e2 : ((b.length : Int) + 1).toNat = b.length + 1 := by omega
 simp only [e1, e2, Int.toNat_natCast, tabT_first]
 refine LoopW.le StLe.arm ?_
 refine LoopW.comp [0, 1, 5, 6, 1000000] (by simp only [sx2, encs, sxR, sevalprocAttr] <;> (try simp) <;> (try omega)) ?_
 simp only [sx2, sxR, sevalprocAttr]
 refine LoopW.up Tok (fun x : Nat => [(6, (.v (.int .i64 ((x : Int) - 1))))]) (fun x => []) (fun x => [(0, tabT a b x)]) (fun x => []) (fun x => x ≤ a.length) (fun x => x) (a.length) (by simp only [sx2, encs, sxR, sevalprocAttr] <;> (try simp) <;> (try omega)) ?_ ?_
 ·omega
 rintro x hx
 simp only [↓sx0, sxE, encs, sevalprocAttr]
 refine BrW.dec (fun hlt => ?_) (fun hlt => ?_)
 ·simp only [↓sx0, sxE, encs, sevalprocAttr]
  obtain ⟨i, rfl⟩ : ∃ i, x = i + 1 := ⟨x - 1, by omega⟩
  have e3 : (((i + 1 : Nat) : Int) - 1) = (i : Int) := by omega
  rw [e3]
  have hia : i < a.length := by omega
  have htl : (tabT a b (i + 1)).length = a.length + 1 := by simp [tabT]
  repeat ((with_reducible refine Vc.go ?_ fun _ => ?_); (focus (first | omega | (simp only [InK]; omega) | (simp [InK]; done) | (simp [InK]; omega))); simp only [↓sx0, sxE, encs, sevalprocAttr])
  intro ad n0 c0
  repeat ((with_reducible refine Vc.go ?_ fun _ => ?_); (focus (first | omega | (simp only [InK]; omega) | (simp [InK]; done) | (simp [InK]; omega))); simp only [↓sx0, sxE, encs, sevalprocAttr])
  have er : List.replicate ((b.length : Int) + 1).toNat [D.v (.int .i64 0)] = (cT a b i b.length).map eI := by rw [e2, cT_end]; simp [eI]
  rw [er, Int.toNat_natCast]
  have hE0 : ((tabT a b (i + 1)).modify i fun x => modE x 0 [D.v (.slice (some ad) n0 c0)])[i]? = some [D.v (.slice (some ad) n0 c0)] := by
   rw [List.getElem?_modify, tabT_get (by omega), if_neg (by omega)]; simp [modE]
  have hE1 : ((tabT a b (i + 1)).modify i fun x => modE x 0 [D.v (.slice (some ad) n0 c0)])[i + 1]? = some [D.sl true 1 ((rowT a b (i + 1)).map eI)] := by
   rw [List.getElem?_modify, tabT_get (by omega)]; simp
  have hEl : ((tabT a b (i + 1)).modify i fun x => modE x 0 [D.v (.slice (some ad) n0 c0)]).length = a.length + 1 := by simp [tabT]
  have hEc := tabT_close (a := a) (b := b) hia [D.v (.slice (some ad) n0 c0)]
  generalize ((tabT a b (i + 1)).modify i fun x => modE x 0 [D.v (.slice (some ad) n0 c0)]) = E at hE0 hE1 hEl hEc ⊢
  refine LoopW.comp [0, 1, 5, 6, 7, 1000000] (by simp only [sx2, encs, sxR, sevalprocAttr] <;> (try simp) <;> (try omega)) ?_
  simp only [sx2, sxR, sevalprocAttr]
  refine LoopW.up Tok (fun j : Nat => [(7, (.v (.int .i64 ((j : Int) - 1))))]) (fun j => []) (fun j => [(1, (cT a b i j).map eI)]) (fun j => []) (fun j => j ≤ b.length) (fun j => j) (b.length) (by simp only [sx2, encs, sxR, sevalprocAttr] <;> (try simp) <;> (try omega)) ?_ ?_
  ·omega
  rintro j hj
  simp only [↓sx0, sxE, encs, sevalprocAttr]
  refine BrW.dec (fun hlt2 => ?_) (fun hlt2 => ?_)
  ·simp only [↓sx0, sxE, encs, sevalprocAttr]
   obtain ⟨q, rfl⟩ : ∃ q, j = q + 1 := ⟨j - 1, by omega⟩
   have e4 : (((q + 1 : Nat) : Int) - 1) = (q : Int) := by omega
   rw [e4]
   have hqb : q < b.length := by omega
   refine DrawW.plan Tok mixed (.q 0 <| .q 1 <| .q 2 <| .q 3 <| .q 4 <| .q 5 <| .q 6 <| .q 7 <| .q 8 <| .q 9 <| .q 10 <| .q 11 <| .q 12 <| .q 13 <| .q 14 <| .q 15 <| .q 16 <| .q 17 <| .q 18 <| .q 19 <| .q 20 <| .q 21 <| .q 22 <| .e 23 [] <| .done) (by kernel_rfl) (by kernel_rfl) ?_
   simp only [↓sx0, sxE, encs, sevalprocAttr]
   repeat ((with_reducible refine Vc.go ?_ fun _ => ?_); (focus (first | omega | (simp only [InK]; omega) | (simp [cT, cV, InK]; done) | (simp [cT, cV, InK]; omega))); simp only [↓sx0, sxE, encs, sevalprocAttr])
   refine ⟨by omega, _, (by rw [Int.toNat_natCast]; exact hE0), ?_⟩
   simp only [↓sx0, sxE, encs, sevalprocAttr]
   repeat ((with_reducible refine Vc.go ?_ fun _ => ?_); (focus (first | omega | (simp only [InK]; omega) | (simp [cT, cV, InK]; done) | (simp [cT, cV, InK]; omega))); simp only [↓sx0, sxE, encs, sevalprocAttr])
   refine ⟨by omega, _, (by rw [show ((i : Int) + 1).toNat = i + 1 by omega]; exact hE1), ?_⟩
   simp only [↓sx0, sxE, encs, sevalprocAttr]
   refine ⟨by omega, _, (by rw [Int.toNat_natCast]; exact rowT_get a b (i + 1) q (by omega)), ?_⟩
   simp only [↓sx0, sxE, encs, sevalprocAttr]
   repeat ((with_reducible refine Vc.go ?_ fun _ => ?_); (focus (first | omega | (simp only [InK]; omega) | (simp [cT, cV, InK]; done) | (simp [cT, cV, InK]; omega))); simp only [↓sx0, sxE, encs, sevalprocAttr])
   refine ⟨by omega, _, (by rw [Int.toNat_natCast]; exact hE0), ?_⟩
   simp only [↓sx0, sxE, encs, sevalprocAttr]
   repeat ((with_reducible refine Vc.go ?_ fun _ => ?_); (focus (first | omega | (simp only [InK]; omega) | (simp [cT, cV, InK]; done) | (simp [cT, cV, InK]; omega))); simp only [↓sx0, sxE, encs, sevalprocAttr])
   refine ⟨by omega, _, (by rw [show ((q : Int) + 1).toNat = q + 1 by omega]; exact cT_get a b i (q + 1) (q + 1) (by omega) (by omega)), ?_⟩
   simp only [↓sx0, sxE, encs, sevalprocAttr]
   repeat ((with_reducible refine Vc.go ?_ fun _ => ?_); (focus (first | omega | (simp only [InK]; omega) | (simp [cT, cV, InK]; done) | (simp [cT, cV, InK]; omega))); simp only [↓sx0, sxE, encs, sevalprocAttr])
   rw [Int.toNat_natCast, cT_put]
   have hst := tl_step hia hqb
   have hb1 := tl_b a b (i + 1) (q + 1)
   refine DrawW.plan Tok mixed (.q 0 <| .q 1 <| .q 2 <| .q 3 <| .q 4 <| .q 5 <| .q 6 <| .q 7 <| .q 8 <| .done) (by kernel_rfl) (by kernel_rfl) ?_
   simp only [↓sx0, sxE, encs, sevalprocAttr]
   refine IxW.nat hia ?_
   simp only [↓sx0, sxE, encs, sevalprocAttr]
   refine IxW.nat hqb ?_
   simp only [↓sx0, sxE, encs, sevalprocAttr]
   refine BrW.dec (fun heq => ?_) (fun heq => ?_)
   ·rw [if_pos heq] at hst
    simp only [↓sx0, sxE, encs, sevalprocAttr]
    refine DrawW.plan Tok mixed (.q 0 <| .q 1 <| .q 2 <| .q 3 <| .q 4 <| .q 5 <| .q 6 <| .q 7 <| .q 8 <| .q 9 <| .q 10 <| .q 11 <| .q 12 <| .q 13 <| .q 14 <| .q 15 <| .q 16 <| .q 17 <| .q 18 <| .q 19 <| .q 20 <| .q 21 <| .q 22 <| .q 23 <| .e 24 [] <| .done) (by kernel_rfl) (by kernel_rfl) ?_
    simp only [↓sx0, sxE, encs, sevalprocAttr]
    repeat ((with_reducible refine Vc.go ?_ fun _ => ?_); (focus (first | omega | (simp only [InK]; omega) | (simp [cT, cV, InK]; done) | (simp [cT, cV, InK]; omega))); simp only [↓sx0, sxE, encs, sevalprocAttr])
    refine ⟨by omega, _, (by rw [Int.toNat_natCast]; exact hE0), ?_⟩
    simp only [↓sx0, sxE, encs, sevalprocAttr]
    repeat ((with_reducible refine Vc.go ?_ fun _ => ?_); (focus (first | omega | (simp only [InK]; omega) | (simp [cT, cV, InK]; done) | (simp [cT, cV, InK]; omega))); simp only [↓sx0, sxE, encs, sevalprocAttr])
    refine ⟨by omega, _, (by rw [Int.toNat_natCast]; exact hE0), ?_⟩
    simp only [↓sx0, sxE, encs, sevalprocAttr]
    repeat ((with_reducible refine Vc.go ?_ fun _ => ?_); (focus (first | omega | (simp only [InK]; omega) | (simp [cT, cV, InK]; done) | (simp [cT, cV, InK]; omega))); simp only [↓sx0, sxE, encs, sevalprocAttr])
    refine ⟨by omega, _, (by rw [Int.toNat_natCast]; exact cV_get a b i q _ (by omega)), ?_⟩
    simp only [↓sx0, sxE, encs, sevalprocAttr]
    repeat ((with_reducible refine Vc.go ?_ fun _ => ?_); (focus (first | omega | (simp only [InK]; omega) | (simp [cT, cV, InK]; done) | (simp [cT, cV, InK]; omega))); simp only [↓sx0, sxE, encs, sevalprocAttr])
    refine ⟨by omega, _, (by rw [show ((i : Int) + 1).toNat = i + 1 by omega]; exact hE1), ?_⟩
    simp only [↓sx0, sxE, encs, sevalprocAttr]
    repeat ((with_reducible refine Vc.go ?_ fun _ => ?_); (focus (first | omega | (simp only [InK]; omega) | (simp [cT, cV, InK]; done) | (simp [cT, cV, InK]; omega))); simp only [↓sx0, sxE, encs, sevalprocAttr])
    refine ⟨by omega, _, (by rw [show ((q : Int) + 1).toNat = q + 1 by omega]; exact rowT_get a b (i + 1) (q + 1) (by omega)), ?_⟩
    simp only [↓sx0, sxE, encs, sevalprocAttr]
    repeat ((with_reducible refine Vc.go ?_ fun _ => ?_); (focus (first | omega | (simp only [InK]; omega) | (simp [cT, cV, InK]; done) | (simp [cT, cV, InK]; omega))); simp only [↓sx0, sxE, encs, sevalprocAttr])
    rw [Int.toNat_natCast, cV_put, ← hst, cV_tl]
    repeat ((with_reducible refine Vc.go ?_ fun _ => ?_); (focus (first | omega | (simp only [InK]; omega) | (simp [InK]; done) | (simp [InK]; omega))); simp only [↓sx0, sxE, encs, sevalprocAttr])
    refine ⟨q, StLe.auto (by simp only [sx2, encs, sxR, sevalprocAttr] <;> (try simp) <;> (try omega)), ?_, ?_⟩
    all_goals omega
   ·rw [if_neg heq] at hst
    rw [← hst, cV_tl]
    simp only [↓sx0, sxE, encs, sevalprocAttr]
    repeat ((with_reducible refine Vc.go ?_ fun _ => ?_); (focus (first | omega | (simp only [InK]; omega) | (simp [InK]; done) | (simp [InK]; omega))); simp only [↓sx0, sxE, encs, sevalprocAttr])
    refine ⟨q, StLe.auto (by simp only [sx2, encs, sxR, sevalprocAttr] <;> (try simp) <;> (try omega)), ?_, ?_⟩
    all_goals omega
  ·simp only [↓sx0, sxE, encs, sevalprocAttr]
   have hj0 : j = 0 := by omega
   subst hj0
   rw [cT_zero]
   repeat ((with_reducible refine Vc.go ?_ fun _ => ?_); (focus (first | omega | (simp only [InK]; omega) | (simp [InK]; done) | (simp [InK]; omega))); simp only [↓sx0, sxE, encs, sevalprocAttr])
   refine ⟨i, StLe.trans (StLe.close (k := 1) (s := 1) (ks := (rowT a b i).map eI) (r := 0) (e' := 23) (s' := 1) (els := E) (i := i) (c := 0) (el := [D.v (.slice (some ad) n0 c0)]) ⟨_, _, rfl, rfl, by decide, rfl, by decide, by decide, hE0, rfl⟩) (StLe.trans StLe.arm (StLe.auto (by simp only [sx2, encs, sxR, sevalprocAttr] <;> (try simp) <;> (try omega)))), ?_, ?_⟩
   all_goals omega
 ·simp only [↓sx0, sxE, encs, sevalprocAttr]
  have hx0 : x = 0 := by omega
  subst hx0
  have hkp : kpLL (tabT a b 0) := by rw [kpLL_all]; intro e he; obtain ⟨r, _, rfl⟩ := List.mem_map.1 he; simp [kpL, kpD, kpLL_map, eI]
  refine EndW.fn ?_ ?_ <;> simp only [sx4, encs, kpLL_map, sxR, sevalprocAttr] <;> (try simp [hkp]) <;> (try omega)
end Go.Proofs.YthkkcemefngeiaaGreat
