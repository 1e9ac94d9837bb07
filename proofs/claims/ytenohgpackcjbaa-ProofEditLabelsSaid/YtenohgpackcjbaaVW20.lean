/-
  Chapter 8, walks: lists of words.
-/
import Derived.Test.YtenohgpackcjbaaVW3
namespace Go.Proofs.Ytenohgpackcjbaa
open Go Go.Vx
set_option linter.unusedSimpArgs false
set_option linter.unusedVariables false
set_option maxRecDepth 20000
theorem take_eq_succ {α : Type} {l m : List α} {k : Nat} (h1 : k < l.length) (h2 : k < m.length) (h : l.take k = m.take k) (e : l[k] = m[k]) : l.take (k + 1) = m.take (k + 1) := by
  rw [List.take_succ_eq_append_getElem h1, List.take_succ_eq_append_getElem h2, h, e]
theorem texts_s (b b' : Bool) (l m : List ByteArray) (hl : l.length ≤ 1000000000) : Ctr Try.prog 54 [.sl b 1 (l.map eS), .sl b' 1 (m.map eS)] (fun rr => rr = ⟨(.v (.bool (decide (l = m)))), []⟩) := by
  refine Ctr.of (rs := [.tmp 4]) Tok true Try.func54 rfl rfl rfl rfl (by simp [ofDL]) (fun w0 kp => ?_)
  simp only [↓sx0, sx1, encs, tys, sxR, sevalprocAttr]
  refine BrW.dec (fun hn => ?_) (fun hn => ?_)
  · simp only [↓sx0, sx1, encs, tys, sxR, sevalprocAttr]
    have : ¬ l = m := fun h => hn (by rw [h])
    exact EndW.fn (by simp only [sx4, encs, kpLL_map, sxR, sevalprocAttr] <;> (try simp [this]) <;> (try omega)) (by simp only [sx4, encs, kpLL_map, sxR, sevalprocAttr] <;> (try simp) <;> (try omega))
  · simp only [↓sx0, sx1, encs, tys, sxR, sevalprocAttr]
    have hn2 : l.length = m.length := by omega
    refine LoopW.comp [0, 1, 5] (by simp only [sx2, encs, sxR, sevalprocAttr] <;> (try simp) <;> (try omega)) ?_
    simp only [sx2, sxR, sevalprocAttr]
    refine LoopW.up Tok (fun k : Nat => [(5, (.v (.int .i64 k)))]) (fun k => []) (fun k => []) (fun k => []) (fun k => k ≤ l.length ∧ l.take k = m.take k) (fun k => l.length - k) (0) (by simp only [sx2, encs, sxR, sevalprocAttr] <;> (try simp) <;> (try omega)) ?_ ?_
    · exact ⟨by omega, by simp⟩
    rintro k ⟨hk, ht⟩
    simp only [↓sx0, sx1, encs, tys, sxR, sevalprocAttr]
    refine BrW.dec (fun hlt => ?_) (fun hlt => ?_)
    · simp only [↓sx0, sx1, encs, tys, sxR, sevalprocAttr]
      have h1 : k < l.length := by omega
      have h2 : k < m.length := by omega
      refine DrawW.plan Tok mixed (.q 0 <| .q 1 <| .q 2 <| .q 3 <| .q 4 <| .q 5 <| .q 6 <| .q 7 <| .q 8 <| .done) (by kernel_rfl) (by kernel_rfl) ?_
      simp only [↓sx0, sx1, encs, tys, sxR, sevalprocAttr]
      refine IxW.nat h1 ?_
      simp only [↓sx0, sx1, encs, tys, sxR, sevalprocAttr]
      refine IxW.nat h2 ?_
      simp only [↓sx0, sx1, encs, tys, sxR, sevalprocAttr]
      refine BrW.dec (fun hne => ?_) (fun hne => ?_)
      · simp only [↓sx0, sx1, encs, tys, sxR, sevalprocAttr]
        have : ¬ l = m := fun h => hne (by subst h; rfl)
        exact EndW.fn (by simp only [sx4, encs, kpLL_map, sxR, sevalprocAttr] <;> (try simp [this]) <;> (try omega)) (by simp only [sx4, encs, kpLL_map, sxR, sevalprocAttr] <;> (try simp) <;> (try omega))
      · simp only [↓sx0, sx1, encs, tys, sxR, sevalprocAttr]
        have he : l[k] = m[k] := by exact Decidable.not_not.1 hne
        (with_reducible refine Vc.go ?_ fun _ => ?_); focus (first | omega | (simp only [InK]; omega) | (simp [InK]; done) | (simp [InK]; omega))
        simp only [↓sx0, sx1, encs, tys, sxR, sevalprocAttr]
        refine ⟨k + 1, StLe.auto (by simp only [sx2, encs, sxR, sevalprocAttr] <;> (try simp) <;> (try omega)), ?_, ?_⟩
        · exact ⟨h1, take_eq_succ h1 h2 ht he⟩
        · omega
    · simp only [↓sx0, sx1, encs, tys, sxR, sevalprocAttr]
      have hke : k = l.length := by omega
      subst hke
      rw [List.take_length, hn2, List.take_length] at ht
      exact EndW.fn (by simp only [sx4, encs, kpLL_map, sxR, sevalprocAttr] <;> (try simp [ht]) <;> (try omega)) (by simp only [sx4, encs, kpLL_map, sxR, sevalprocAttr] <;> (try simp) <;> (try omega))
theorem grow_s (n : Nat) (hn : n ≤ 1000000) : Ctr Try.prog 118 [.v (.slice none 0 0), (.v (.int .i64 n))] (fun rr => rr = ⟨.row 0, [.own 9 1 []]⟩) := by
  refine Ctr.of (rs := [.tmp 4]) Tok false Try.func118 rfl rfl rfl rfl (by simp [ofDL]) (fun w0 kp => ?_)
  simp only [↓sx0, sx1, encs, tys, sxR, sevalprocAttr]
  refine BrW.no (by omega) ?_
  simp only [↓sx0, sx1, encs, tys, sxR, sevalprocAttr]
  (with_reducible refine Vc.go ?_ fun _ => ?_); focus (first | omega | (simp only [InK]; omega) | (simp [InK]; done) | (simp [InK]; omega))
  simp only [↓sx0, sx1, encs, tys, sxR, sevalprocAttr]
  (with_reducible refine Vc.go ?_ fun _ => ?_); focus (first | omega | (simp only [InK]; omega) | (simp [InK]; done) | (simp [InK]; omega))
  simp only [↓sx0, sx1, encs, tys, sxR, sevalprocAttr]
  refine BrW.dec (fun h => ?_) (fun h => ?_)
  · simp only [↓sx0, sx1, encs, tys, sxR, sevalprocAttr]
    (with_reducible refine Vc.go ?_ fun _ => ?_); focus (first | omega | (simp only [InK]; omega) | (simp [InK]; done) | (simp [InK]; omega))
    simp only [↓sx0, sx1, encs, tys, sxR, sevalprocAttr]
    (with_reducible refine Vc.go ?_ fun _ => ?_); focus (first | omega | (simp only [InK]; omega) | (simp [InK]; done) | (simp [InK]; omega))
    simp only [↓sx0, sx1, encs, tys, sxR, sevalprocAttr]
    (with_reducible refine Vc.go ?_ fun _ => ?_); focus (first | omega | (simp only [InK]; omega) | (simp [InK]; done) | (simp [InK]; omega))
    simp only [↓sx0, sx1, encs, tys, sxR, sevalprocAttr]
    exact EndW.r [some 1] (by simp) (by simp only [sx4, sxF, encs, kpLL_map, sxR, sevalprocAttr] <;> simp) (by simp only [sx4, sxF, encs, kpLL_map, sxR, sevalprocAttr] <;> simp) (by simp only [sx4, sxF, encs, kpLL_map, sxR, sevalprocAttr] <;> simp) (by simp only [sx4, sxF, encs, kpLL_map, sxR, sevalprocAttr] <;> simp)
  · simp only [↓sx0, sx1, encs, tys, sxR, sevalprocAttr]
    exact EndW.r [none] (by simp) (by simp only [sx4, sxF, encs, kpLL_map, sxR, sevalprocAttr] <;> simp) (by simp only [sx4, sxF, encs, kpLL_map, sxR, sevalprocAttr] <;> simp) (by simp only [sx4, sxF, encs, kpLL_map, sxR, sevalprocAttr] <;> simp) (by simp only [sx4, sxF, encs, kpLL_map, sxR, sevalprocAttr] <;> simp)
def eSL (p : Bool × List ByteArray) : List D := [.sl p.1 1 (p.2.map eS)]
def cat (ls : List (Bool × List ByteArray)) : List ByteArray := ls.flatMap Prod.snd
theorem lens_take {ls : List (Bool × List ByteArray)} {k : Nat} (h : k < ls.length) : cat (ls.take (k + 1)) = cat (ls.take k) ++ ls[k].2 := by
  rw [List.take_succ_eq_append_getElem h, cat, List.flatMap_append, cat]; simp only [List.flatMap_cons, List.flatMap_nil, List.append_nil]
theorem lens_le (ls : List (Bool × List ByteArray)) (k : Nat) : (cat (ls.take k)).length ≤ (cat ls).length := by
  conv => rhs; rw [← List.take_append_drop k ls, cat, List.flatMap_append, List.length_append]
  unfold cat
  omega
theorem concat_s (b : Bool) (ls : List (Bool × List ByteArray)) (hn : ls.length ≤ 1000) (hl : (cat ls).length ≤ 1000000) :
    Ctr Try.prog 87 [.sl b 1 (ls.map eSL)] (fun rr => rr = ⟨.row 0, [.own 9 1 ((cat ls).map eS)]⟩) := by
  have encs := And.intro encs (show ∀ p, eSL p = [.sl p.1 1 (p.2.map eS)] from fun _ => rfl)
  refine Ctr.of (rs := [.tmp 2]) Tok false Try.func87 rfl rfl rfl rfl (by simp [ofDL]) (fun w0 kp => ?_)
  simp only [↓sx0, sx1, encs, tys, sxR, sevalprocAttr]
  refine LoopW.comp [0, 3, 9, 10, 11] (by simp only [sx2, encs, sxR, sevalprocAttr] <;> (try simp) <;> (try omega)) ?_
  simp only [sx2, sxR, sevalprocAttr]
  refine LoopW.up Tok (fun k : Nat => [(3, (.v (.int .i64 ((cat (ls.take k)).length)))), (11, (.v (.int .i64 k)))]) (fun k => []) (fun k => []) (fun k => []) (fun k => k ≤ ls.length) (fun k => ls.length - k) (0) (by simp only [sx2, encs, sxR, sevalprocAttr] <;> (try simp [cat, encs]) <;> (try omega)) ?_ ?_
  · omega
  rintro k hk
  have hb := lens_le ls k
  simp only [↓sx0, sx1, encs, tys, sxR, sevalprocAttr]
  refine BrW.dec (fun hlt => ?_) (fun hlt => ?_)
  · simp only [↓sx0, sx1, encs, tys, sxR, sevalprocAttr]
    have hk' : k < ls.length := by omega
    have hb2 := lens_le ls (k + 1)
    rw [lens_take hk', List.length_append] at hb2
    refine IxW.nat hk' ?_
    simp only [↓sx0, sx1, encs, tys, sxR, sevalprocAttr]
    (with_reducible refine Vc.go ?_ fun _ => ?_); focus (first | omega | (simp only [InK]; omega) | (simp [InK]; done) | (simp [InK]; omega))
    simp only [↓sx0, sx1, encs, tys, sxR, sevalprocAttr]
    refine BrW.no (by omega) ?_
    simp only [↓sx0, sx1, encs, tys, sxR, sevalprocAttr]
    (with_reducible refine Vc.go ?_ fun _ => ?_); focus (first | omega | (simp only [InK]; omega) | (simp [InK]; done) | (simp [InK]; omega))
    simp only [↓sx0, sx1, encs, tys, sxR, sevalprocAttr]
    refine ⟨k + 1, StLe.auto (by simp only [sx2, encs, sxR, sevalprocAttr] <;> (try simp [lens_take hk', encs]) <;> (try omega)), ?_, ?_⟩
    · omega
    · omega
  · simp only [↓sx0, sx1, encs, tys, sxR, sevalprocAttr]
    have hke : k = ls.length := by omega
    subst hke
    rw [List.take_length]
    refine CallI.ctr (grow_s (cat ls).length hl) (by simp only [sx3, encs, sxR, sevalprocAttr] <;> (try simp) <;> (try rfl)) ?_
    rintro _ rfl
    simp only [↓sx0, sx1, encs, tys, sxR, sevalprocAttr]
    refine LoopW.comp [6, 25, 26, 27] (by simp only [sx2, encs, sxR, sevalprocAttr] <;> (try simp) <;> (try omega)) ?_
    simp only [sx2, sxR, sevalprocAttr]
    refine LoopW.up Tok (fun k : Nat => [(27, (.v (.int .i64 k)))]) (fun k => []) (fun k => [(0, (cat (ls.take k)).map eS)]) (fun k => []) (fun k => k ≤ ls.length) (fun k => ls.length - k) (0) (by simp only [sx2, encs, sxR, sevalprocAttr] <;> (try simp [cat, encs]) <;> (try omega)) ?_ ?_
    · omega
    rintro k hk
    have hb := lens_le ls k
    simp only [↓sx0, sx1, encs, tys, sxR, sevalprocAttr]
    refine BrW.dec (fun hlt => ?_) (fun hlt => ?_)
    · simp only [↓sx0, sx1, encs, tys, sxR, sevalprocAttr]
      have hk' : k < ls.length := by omega
      have hb2 := lens_le ls (k + 1)
      rw [lens_take hk', List.length_append] at hb2
      refine IxW.nat hk' ?_
      simp only [↓sx0, sx1, encs, tys, sxR, sevalprocAttr]
      (with_reducible refine Vc.go ?_ fun _ => ?_); focus (first | omega | (simp only [InK]; omega) | (simp [InK]; done) | (simp [InK]; omega))
      simp only [↓sx0, sx1, encs, tys, sxR, sevalprocAttr]
      (with_reducible refine Vc.go ?_ fun _ => ?_); focus (first | omega | (simp only [InK]; omega) | (simp [InK]; done) | (simp [InK]; omega))
      simp only [↓sx0, sx1, encs, tys, sxR, sevalprocAttr]
      refine ⟨k + 1, StLe.auto (by simp only [sx2, encs, sxR, sevalprocAttr] <;> (try simp [lens_take hk', encs]) <;> (try omega)), ?_, ?_⟩
      · omega
      · omega
    · simp only [↓sx0, sx1, encs, tys, sxR, sevalprocAttr]
      have hke : k = ls.length := by omega
      subst hke
      rw [List.take_length]
      exact EndW.r [some 0] (by simp) (by simp only [sx4, sxF, encs, kpLL_map, sxR, sevalprocAttr] <;> simp [kpLL_map, encs, kpL, kpD]) (by simp only [sx4, sxF, encs, kpLL_map, sxR, sevalprocAttr] <;> simp [kpLL_map, encs, kpL, kpD]) (by simp only [sx4, sxF, encs, kpLL_map, sxR, sevalprocAttr] <;> simp [kpLL_map, encs, kpL, kpD]) (by simp only [sx4, sxF, encs, kpLL_map, sxR, sevalprocAttr] <;> simp [kpLL_map, encs, kpL, kpD])
theorem words1_s (s : ByteArray) (hs : s.size ≤ 1000000000) : Ctr Try.prog 110 [(.v (.string (s)))] (fun rr => rr = ⟨(.v (.bool (badW s))), []⟩) := by
  refine Ctr.of (rs := [.tmp 2]) Tok true Try.func110 rfl rfl rfl rfl (by simp [ofDL]) (fun w0 kp => ?_)
  simp only [↓sx0, sx1, encs, tys, sxR, sevalprocAttr]
  refine CallI.fn (isWord_s s hs) (by simp only [sx3, encs, sxR, sevalprocAttr] <;> (try simp) <;> (try rfl)) ?_
  simp only [↓sx0, sx1, encs, tys, sxR, sevalprocAttr]
  exact EndW.fn (by simp only [sx4, encs, kpLL_map, sxR, sevalprocAttr] <;> (try simp [badW]) <;> (try omega)) (by simp only [sx4, encs, kpLL_map, sxR, sevalprocAttr] <;> (try simp) <;> (try omega))
/-- the error of two lists of words. -/
def wdsErr (a b : List ByteArray) : Int := if a.length ≤ 40 ∧ b.length ≤ 40 then (if (a ++ b).any badW = true then 3 else 0) else 8
def AllSz (l : List ByteArray) : Prop := ∀ s ∈ l, s.size ≤ 1000000000
theorem checkWords_s (b1 b2 : Bool) (l m : List ByteArray) (hl : AllSz l) (hm : AllSz m) : Ctr Try.prog 72 [.sl b1 1 (l.map eS), .sl b2 1 (m.map eS)] (fun rr => rr = ⟨(.v (.int .i64 (wdsErr l m))), []⟩) := by
  have encs := And.intro encs (show ∀ p, eSL p = [.sl p.1 1 (p.2.map eS)] from fun _ => rfl)
  refine Ctr.of (rs := [.tmp 4]) Tok true Try.func72 rfl rfl rfl rfl (by simp [ofDL]) (fun w0 kp => ?_)
  simp only [↓sx0, sx1, encs, tys, sxR, sevalprocAttr]
  refine BrW.dec (fun h1 => ?_) (fun h1 => ?_)
  · rw [show wdsErr l m = 8 by rw [wdsErr, if_neg (by omega)]]
    simp only [↓sx0, sx1, encs, tys, sxR, sevalprocAttr]
    repeat ((with_reducible refine BrW.yes (by omega) ?_); simp only [↓sx0, sx1, encs, tys, sxR, sevalprocAttr])
    exact EndW.fn (by simp only [sx4, encs, kpLL_map, sxR, sevalprocAttr] <;> (try simp) <;> (try omega)) (by simp only [sx4, encs, kpLL_map, sxR, sevalprocAttr] <;> (try simp) <;> (try omega))
  · simp only [↓sx0, sx1, encs, tys, sxR, sevalprocAttr]
    repeat ((with_reducible refine BrW.no (by omega) ?_); simp only [↓sx0, sx1, encs, tys, sxR, sevalprocAttr])
    refine BrW.dec (fun h2 => ?_) (fun h2 => ?_)
    · rw [show wdsErr l m = 8 by rw [wdsErr, if_neg (by omega)]]
      simp only [↓sx0, sx1, encs, tys, sxR, sevalprocAttr]
      exact EndW.fn (by simp only [sx4, encs, kpLL_map, sxR, sevalprocAttr] <;> (try simp) <;> (try omega)) (by simp only [sx4, encs, kpLL_map, sxR, sevalprocAttr] <;> (try simp) <;> (try omega))
    · have hc : cat [(b1, l), (b2, m)] = l ++ m := by simp [cat]
      rw [show wdsErr l m = if (l ++ m).any badW = true then 3 else 0 by rw [wdsErr, if_pos (by omega)]]
      simp only [↓sx0, sx1, encs, tys, sxR, sevalprocAttr]
      refine CallI.ctr (concat_s false [(b1, l), (b2, m)] (by simp) (by rw [hc, List.length_append]; omega)) (by simp only [sx3, encs, sxR, sevalprocAttr] <;> (try simp) <;> (try rfl)) ?_
      rintro _ rfl
      rw [hc]
      simp only [↓sx0, sx1, encs, tys, sxR, sevalprocAttr]
      refine CallI.fn (containsS_s false 110 badW (l ++ m) (by rw [List.length_append]; omega) (fun x hx => words1_s x ((List.mem_append.1 hx).elim (hl x) (hm x)))) (by simp only [sx3, encs, sxR, sevalprocAttr] <;> (try simp) <;> (try rfl)) ?_
      simp only [↓sx0, sx1, encs, tys, sxR, sevalprocAttr]
      refine BrW.of (fun hb => ?_) (fun hb => ?_)
      · rw [if_pos hb]
        simp only [↓sx0, sx1, encs, tys, sxR, sevalprocAttr]
        exact EndW.fn (by simp only [sx4, encs, kpLL_map, sxR, sevalprocAttr] <;> (try simp) <;> (try omega)) (by simp only [sx4, encs, kpLL_map, sxR, sevalprocAttr] <;> (try simp) <;> (try omega))
      · rw [if_neg (by rw [hb]; simp)]
        simp only [↓sx0, sx1, encs, tys, sxR, sevalprocAttr]
        exact EndW.fn (by simp only [sx4, encs, kpLL_map, sxR, sevalprocAttr] <;> (try simp) <;> (try omega)) (by simp only [sx4, encs, kpLL_map, sxR, sevalprocAttr] <;> (try simp) <;> (try omega))
end Go.Proofs.Ytenohgpackcjbaa
