/-
  Whether a text is a word: the library's search for a rune, by its own contract.
-/
import Derived.Test.YtenohgpackcjbaaVPure
import Derived.Test.YtenohgpackcjbaaVW1
import Derived.Shelf.Strings.FuncGrows
import Derived.Laws.RangeString
namespace Go.Proofs.Ytenohgpackcjbaa
open Go Go.Vx Go.Shelf Go.RowKit
set_option linter.unusedSimpArgs false
set_option linter.unusedVariables false
def rIdx : Ren := ⟨fun | 315 => 152 | n => n, fun | 9 => 9 | 40 => 169 | 4 => 4 | 3 => 3 | 0 => 0 | 21 => 21 | n => n, fun n => n⟩
theorem laysIdx : Lays.n315 Try.prog rIdx := { mixed := rfl, f315 := Try.func152, t0 := Try.underlying0, a0 := Try.isAgg0, z0 := Try.sizeOf0, v0 := Try.zeroValue0, t3 := Try.underlying3, a3 := Try.isAgg3, z3 := Try.sizeOf3, v3 := Try.zeroValue3, t4 := Try.underlying4, a4 := Try.isAgg4, z4 := Try.sizeOf4, v4 := Try.zeroValue4, t9 := Try.underlying9, a9 := Try.isAgg9, z9 := Try.sizeOf9, v9 := Try.zeroValue9, t21 := Try.underlying21, a21 := Try.isAgg21, z21 := Try.sizeOf21, v21 := Try.zeroValue21, t40 := Try.underlying169, a40 := Try.isAgg169, z40 := Try.sizeOf169, v40 := Try.zeroValue169 }
def badR (r : Nat) : Bool := decide (r < 33) || decide (126 < r)
theorem isWord1_s (r : Nat) : Ctr Try.prog 148 [.v (.int .i32 (r : Int))] (fun rr => rr = ⟨(.v (.bool (badR r))), []⟩) := by
  refine Ctr.of (rs := [.tmp 2]) Tok true Try.func148 rfl rfl rfl rfl (by simp [ofDL]) (fun w0 kp => ?_)
  simp only [↓sx0, sx1, encs, tys, sxR, sevalprocAttr]
  refine BrW.dec (fun h => ?_) (fun h => ?_)
  · simp only [↓sx0, sx1, encs, tys, sxR, sevalprocAttr]
    have : badR r = true := by simp [badR]; omega
    exact EndW.fn (by simp only [sx4, encs, kpLL_map, sxR, sevalprocAttr] <;> (try simp [this]) <;> (try omega)) (by simp only [sx4, encs, kpLL_map, sxR, sevalprocAttr] <;> (try simp) <;> (try omega))
  · simp only [↓sx0, sx1, encs, tys, sxR, sevalprocAttr]
    have : badR r = decide (126 < (r : Int)) := by rw [Bool.eq_iff_iff]; simp [badR]; omega
    exact EndW.fn (by simp only [sx4, encs, kpLL_map, sxR, sevalprocAttr] <;> (try simp [this]) <;> (try omega)) (by simp only [sx4, encs, kpLL_map, sxR, sevalprocAttr] <;> (try simp) <;> (try omega))
/-- a contract with values, as a fact on calls. -/
theorem ctr_call {P : Program} {f : FuncId} {xs : List Value} {u : Value} (h : Ctr P f (xs.map .v) (fun rr => rr = ⟨.v u, []⟩)) (w : World) : Calls P f xs.toArray w fun e w' => e = .returned u ∧ Below w.heap.size w w' := by
  refine (h.2 w (fun _ => none) (fun b o hb => by cases hb) xs (rels_same xs)).mono ?_
  rintro e w' ⟨v, r, rfl, rfl, hb, g, _, _, hv, _⟩
  simp only [rel] at hv
  exact ⟨by rw [hv], hb⟩
theorem grows (w : World) : PredGrows Try.prog 148 #[] badR w := fun W x _ _ => by
  have := ctr_call (xs := [.int .i32 (x : Int)]) (isWord1_s x) W
  simpa using this
theorem callee (args : Array Value) (w : World) : (callFunc 148 args).run Try.prog w = .ok (.enter 148 args) w := Go.Proofs.enters_of Try.func148 (by kernel_rfl) rfl args w
theorem indexFunc_s (s : ByteArray) : Ctr Try.prog 152 [(.v (.string (s))), .clo 148 [], (.v (.bool (true)))] (fun rr => rr = ⟨(.v (.int .i64 (Lib.idxFunc badR true s))), []⟩) := by
  refine ⟨⟨_, Try.func152, rfl, rfl⟩, fun w kp hk vs hr => ?_⟩
  match vs, hr with
  | [a, b, c], ⟨h1, ⟨cs, h2, h3⟩, h4, _⟩ =>
    simp only [rel] at h1 h4
    have hcs : cs = #[] := by
      cases hl : cs.toList with
      | nil => simpa using hl
      | cons x l => rw [hl] at h3; exact h3.elim
    subst hcs
    rw [h1, h2, h4]
    have := Any.strings_indexFunc_grows laysIdx 148 #[] callee badR true s w (grows w)
    refine Calls.mono this ?_
    rintro e w' ⟨rfl, hb⟩
    exact ⟨_, _, rfl, rfl, RetOk.plain hk hb fun g => rfl⟩
theorem decode_big (s : ByteArray) (pos : Nat) (h : pos < s.size) (ha : 128 ≤ s[pos].toNat) : 128 ≤ (Utf8.decode s pos).1 := by
  have h0 : (s.get! (pos + 0)).toNat = s[pos].toNat := by simp [ByteArray.get!, h, getElem!_pos, ByteArray.getElem_eq_getElem_data]
  unfold Utf8.decode
  simp only [h0, Utf8.runeError]
  repeat' split
  all_goals first | omega | (rename_i hh; simp only [Bool.and_eq_true, decide_eq_true_eq] at hh; omega) | (simp_all; done) | (simp_all; omega)
theorem idx_from {s : ByteArray} : ∀ (f pos : Nat), s.size ≤ pos + f → (Lib.idxFuncFrom badR true s f pos < 0 ↔ (s.data.toList.drop pos).all okB = true)
  | 0, pos, h => by
    have : s.data.toList.drop pos = [] := List.drop_eq_nil_iff.2 (by simp; omega)
    simp [Lib.idxFuncFrom, this]
  | f + 1, pos, h => by
    unfold Lib.idxFuncFrom
    split
    · rename_i hlt
      have hl : pos < s.data.toList.length := by simpa using hlt
      rw [List.drop_eq_getElem_cons hl, List.all_cons]
      have hce : s[pos] = s.data.toList[pos] := rfl
      rw [← hce]
      by_cases ha : s[pos].toNat < 128
      · rw [decode_ascii s pos hlt ha]
        by_cases hb : badR s[pos].toNat = true
        · rw [if_pos hb]
          have : okB s[pos] = false := by simp only [badR, Bool.or_eq_true, decide_eq_true_eq] at hb; simp [okB]; omega
          rw [this]; simp
        · rw [if_neg hb, idx_from f (pos + 1) (by omega)]
          have : okB s[pos] = true := by simp only [badR, Bool.or_eq_true, decide_eq_true_eq] at hb; simp [okB]; omega
          rw [this, Bool.true_and]
      · have h1 := decode_big s pos hlt (by omega)
        rw [if_pos (by simp [badR]; omega)]
        have : okB s[pos] = false := by simp [okB]; omega
        rw [this]; simp
    · have : s.data.toList.drop pos = [] := List.drop_eq_nil_iff.2 (by simp; omega)
      simp [this]
theorem idx_ok (s : ByteArray) : decide (Lib.idxFunc badR true s < 0) = bytesOk s := by
  have := idx_from (s := s) s.size 0 (by omega)
  rw [Bool.eq_iff_iff, decide_eq_true_eq]
  simpa [Lib.idxFunc, bytesOk] using this
theorem isWordT_s (s : ByteArray) : Ctr Try.prog 135 [(.v (.string (s)))] (fun rr => rr = ⟨(.v (.bool (isWd s))), []⟩) := by
  have hI : Ctr Try.prog 147 [(.v (.string (s))), .clo 148 []] (fun rr => rr = ⟨(.v (.int .i64 (Lib.idxFunc badR true s))), []⟩) := by
    refine Ctr.of (rs := [.tmp 4]) Tok true Try.func147 rfl rfl rfl rfl (by simp [ofDL]) (fun w0 kp => ?_)
    simp only [↓sx0, sx1, encs, tys, sxR, sevalprocAttr]
    refine CallI.fn (indexFunc_s s) (by simp only [sx3, encs, sxR, sevalprocAttr] <;> (try simp) <;> (try rfl)) ?_
    simp only [↓sx0, sx1, encs, tys, sxR, sevalprocAttr]
    exact EndW.fn (by simp only [sx4, encs, kpLL_map, sxR, sevalprocAttr] <;> (try simp) <;> (try omega)) (by simp only [sx4, encs, kpLL_map, sxR, sevalprocAttr] <;> (try simp) <;> (try omega))
  refine Ctr.of (rs := [.tmp 2]) Tok true Try.func135 rfl rfl rfl rfl (by simp [ofDL]) (fun w0 kp => ?_)
  simp only [↓sx0, sx1, encs, tys, sxR, sevalprocAttr]
  refine CallI.fn (withinT_s (s.size : Int) 1 30) (by simp only [sx3, encs, sxR, sevalprocAttr] <;> (try simp) <;> (try rfl)) ?_
  simp only [↓sx0, sx1, encs, tys, sxR, sevalprocAttr]
  refine BrW.of (fun hw => ?_) (fun hw => ?_)
  · have hw : (1 : Int) ≤ s.size ∧ (s.size : Int) ≤ 30 := by simpa using hw
    simp only [↓sx0, sx1, encs, tys, sxR, sevalprocAttr]
    refine CallI.fn (hI) (by simp only [sx3, encs, sxR, sevalprocAttr] <;> (try simp) <;> (try rfl)) ?_
    simp only [↓sx0, sx1, encs, tys, sxR, sevalprocAttr]
    rw [idx_ok]
    have : isWd s = bytesOk s := by rw [isWd, decide_eq_true (show 1 ≤ s.size ∧ s.size ≤ 30 by omega), Bool.and_true]
    exact EndW.fn (by simp only [sx4, encs, kpLL_map, sxR, sevalprocAttr] <;> (try simp [this]) <;> (try omega)) (by simp only [sx4, encs, kpLL_map, sxR, sevalprocAttr] <;> (try simp) <;> (try omega))
  · have hw : ¬ ((1 : Int) ≤ s.size ∧ (s.size : Int) ≤ 30) := by simpa using hw
    simp only [↓sx0, sx1, encs, tys, sxR, sevalprocAttr]
    have : isWd s = false := by rw [isWd, decide_eq_false (show ¬ (1 ≤ s.size ∧ s.size ≤ 30) by omega), Bool.and_false]
    exact EndW.fn (by simp only [sx4, encs, kpLL_map, sxR, sevalprocAttr] <;> (try simp [this]) <;> (try omega)) (by simp only [sx4, encs, kpLL_map, sxR, sevalprocAttr] <;> (try simp) <;> (try omega))
end Go.Proofs.Ytenohgpackcjbaa
