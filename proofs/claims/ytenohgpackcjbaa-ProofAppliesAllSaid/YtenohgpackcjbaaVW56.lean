/-
 Chapter 8, walks: the reference's lists one behind the other; its parts of a copy.
-/
import Derived.Test.YtenohgpackcjbaaVGN
import Derived.Test.YtenohgpackcjbaaVGE
namespace Go.Proofs.Ytenohgpackcjbaa
open Go Go.Vx
set_option linter.unusedSimpArgs false
set_option linter.unusedVariables false
set_option maxRecDepth 20000
theorem glue_s (b : Bool) (ls : List (Bool × List ByteArray)) (hn : ls.length ≤ 1000) (hl : (cat ls).length ≤ 1000000) : Ctr Try.prog 65 [.sl b 1 (ls.map eSL)] (fun rr => rr = ⟨.sl true 1 ((cat ls).map eS), []⟩) := by
 have encs := And.intro encs (show ∀ p, eSL p = [.sl p.1 1 (p.2.map eS)] from fun _ => rfl)
 refine Ctr.of (rs := [.tmp 2]) Tok true Try.func65 rfl rfl rfl rfl (by simp [ofDL]) (fun w0 kp => ?_)
 simp only [↓sx0, sxE, encs, sevalprocAttr]
 refine LoopW.inv Tok (fun k : Nat => ⟨[(3, .row 0), (4, (.v (.int .i64 k))), (0, .sl b 1 (ls.map eSL))], [], [.own 9 1 ((cat (ls.take k)).map eS)]⟩) (fun k => k ≤ ls.length) (fun k => ls.length - k) 0 (StLe.auto ?_) (Nat.zero_le _) ?_
 ·simp only [List.take_zero, cat, List.flatMap_nil, List.map_nil]
  simp only [sx2, encs, sxR, sevalprocAttr] <;> (try simp) <;> (try omega)
 rintro k hk
 have hb := lens_le ls k
 simp only [↓sx0, sxE, encs, sevalprocAttr]
 refine BrW.dec (fun hlt => ?_) (fun hlt => ?_)
 ·simp only [↓sx0, sxE, encs, sevalprocAttr]
  have hkl : k < ls.length := by omega
  have hb2 := lens_le ls (k + 1)
  have ht := lens_take hkl
  have hlen := congrArg List.length ht
  rw [List.length_append] at hlen
  refine IxW.nat hkl ?_
  simp only [↓sx0, sxE, encs, sevalprocAttr]
  repeat ((with_reducible refine Vc.go ?_ fun _ => ?_); (focus (first | omega | (simp only [InK]; omega) | (simp [InK]; done) | (simp [InK]; omega))); simp only [↓sx0, sxE, encs, sevalprocAttr])
  refine ⟨k + 1, StLe.auto ?_, by omega, by omega⟩
  simp only [ht, List.map_append]
  simp only [sx2, encs, sxR, sevalprocAttr] <;> (try simp) <;> (try omega)
 ·simp only [↓sx0, sxE, encs, sevalprocAttr]
  have hke : k = ls.length := by omega
  subst hke
  rw [List.take_length]
  have hkp := kpS (cat ls)
  refine EndW.fn ?_ ?_ <;> simp only [sx4, encs, kpLL_map, sxR, sevalprocAttr] <;> (try simp [hkp]) <;> (try omega)
theorem checkPartsR_s (b b2 : Bool) (l : List Pt) (hl : l.length ≤ 1000000) (hw : ∀ p ∈ l, p.words.length ≤ 1000000 ∧ ∀ s ∈ p.words, s.size ≤ 1000000000) : Ctr Try.prog 20 [.sl b 2 (l.map (eP b2))] (fun rr => rr = ⟨.tup [(.v (.int .i64 ((partsErr l).1))), (.v (.int .i64 ((partsErr l).2)))], []⟩) := by
 refine Ctr.of (rs := [.tmp 2, .tmp 3]) Tok true Try.func20 rfl rfl rfl rfl (by simp [ofDL]) (fun w0 kp => ?_)
 simp only [↓sx0, sxE, encs, sevalprocAttr]
 refine BrW.dec (fun h60 => ?_) (fun h60 => ?_)
 ·simp only [↓sx0, sxE, encs, sevalprocAttr]
  rw [show partsErr l = (0, 8) by rw [partsErr, if_pos (by omega)]]
  refine EndW.fn ?_ ?_ <;> simp only [sx4, encs, kpLL_map, sxR, sevalprocAttr] <;> (try simp) <;> (try omega)
 ·rw [show partsErr l = partsE 0 l by rw [partsErr, if_neg (by omega)]]
  simp only [↓sx0, sxE, encs, sevalprocAttr]
  refine LoopW.comp [0, 4] (by simp only [sx2, encs, sxR, sevalprocAttr] <;> (try simp) <;> (try omega)) ?_
  simp only [sx2, sxR, sevalprocAttr]
  refine LoopW.up Tok (fun k : Nat => [(4, (.v (.int .i64 k)))]) (fun k => []) (fun k => []) (fun k => []) (fun k => k ≤ l.length ∧ partsE k (l.drop k) = partsE 0 l) (fun k => l.length - k) (0) (by simp only [sx2, encs, sxR, sevalprocAttr] <;> (try simp) <;> (try omega)) ?_ ?_
  ·exact ⟨by omega, rfl⟩
  rintro k ⟨hk, ht⟩
  simp only [↓sx0, sxE, encs, sevalprocAttr]
  refine BrW.dec (fun hlt => ?_) (fun hlt => ?_)
  ·simp only [↓sx0, sxE, encs, sevalprocAttr]
   have hlt : k < l.length := by omega
   have he := partsE_at hlt ht
   obtain ⟨w1, w2⟩ := hw _ (List.getElem_mem hlt)
   refine IxW.nat hlt ?_
   simp only [↓sx0, sxE, encs, sevalprocAttr]
   refine CallI.fn (withinB_s l[k].kind 1 3) (by simp only [sx3, encs, sxR, sevalprocAttr] <;> (try simp) <;> (try rfl)) ?_
   simp only [↓sx0, sxE, encs, sevalprocAttr]
   refine BrW.of (fun hkd => ?_) (fun hkd => ?_)
   ·have hkd : 1 ≤ l[k].kind ∧ l[k].kind ≤ 3 := by simpa using hkd
    simp only [↓sx0, sxE, encs, sevalprocAttr]
    refine IxW.nat hlt ?_
    simp only [↓sx0, sxE, encs, sevalprocAttr]
    refine BrW.dec (fun h0 => ?_) (fun h0 => ?_)
    ·simp only [↓sx0, sxE, encs, sevalprocAttr]
     rw [show partErr l[k] = 10 by rw [partErr, if_pos hkd, if_pos (by omega)], if_neg (by decide)] at he
     rw [he]
     refine EndW.fn ?_ ?_ <;> simp only [sx4, encs, kpLL_map, sxR, sevalprocAttr] <;> (try simp) <;> (try omega)
    ·simp only [↓sx0, sxE, encs, sevalprocAttr]
     refine IxW.nat hlt ?_
     simp only [↓sx0, sxE, encs, sevalprocAttr]
     refine BrW.dec (fun h8 => ?_) (fun h8 => ?_)
     ·simp only [↓sx0, sxE, encs, sevalprocAttr]
      rw [show partErr l[k] = 8 by rw [partErr, if_pos hkd, if_neg (by omega), if_pos (by omega)], if_neg (by decide)] at he
      rw [he]
      refine EndW.fn ?_ ?_ <;> simp only [sx4, encs, kpLL_map, sxR, sevalprocAttr] <;> (try simp) <;> (try omega)
     ·simp only [↓sx0, sxE, encs, sevalprocAttr]
      have hpe : partErr l[k] = if l[k].words.any badW = true ∨ isMk (l[k].words.headD hash) = true then 3 else 0 := by rw [partErr, if_pos hkd, if_neg (by omega), if_neg (by omega)]
      have hpos : 0 < l[k].words.length := by omega
      refine LoopW.comp [0, 4, 5] (by simp only [sx2, encs, sxR, sevalprocAttr] <;> (try simp) <;> (try omega)) ?_
      simp only [sx2, sxR, sevalprocAttr]
      refine LoopW.up Tok (fun j : Nat => [(5, (.v (.int .i64 j)))]) (fun j => []) (fun j => []) (fun j => []) (fun j => j ≤ l[k].words.length ∧ ∀ t (_ : t < j) (h2 : t < l[k].words.length), badW l[k].words[t] = false) (fun j => l[k].words.length - j) (0) (by simp only [sx2, encs, sxR, sevalprocAttr] <;> (try simp) <;> (try omega)) ?_ ?_
      ·exact ⟨by omega, fun t h => absurd h (Nat.not_lt_zero _)⟩
      rintro j ⟨hj, hjt⟩
      simp only [↓sx0, sxE, encs, sevalprocAttr]
      refine IxW.nat hlt ?_
      simp only [↓sx0, sxE, encs, sevalprocAttr]
      refine BrW.dec (fun hjl => ?_) (fun hjl => ?_)
      ·simp only [↓sx0, sxE, encs, sevalprocAttr]
       have hjl : j < l[k].words.length := by omega
       refine IxW.nat hlt ?_
       simp only [↓sx0, sxE, encs, sevalprocAttr]
       refine IxW.nat hjl ?_
       simp only [↓sx0, sxE, encs, sevalprocAttr]
       refine CallI.fn (isWordR_s l[k].words[j] (w2 _ (List.getElem_mem hjl))) (by simp only [sx3, encs, sxR, sevalprocAttr] <;> (try simp) <;> (try rfl)) ?_
       simp only [↓sx0, sxE, encs, sevalprocAttr]
       refine BrW.of (fun hb => ?_) (fun hb => ?_)
       ·simp only [↓sx0, sxE, encs, sevalprocAttr]
        repeat ((with_reducible refine Vc.go ?_ fun _ => ?_); (focus (first | omega | (simp only [InK]; omega) | (simp [InK]; done) | (simp [InK]; omega))); simp only [↓sx0, sxE, encs, sevalprocAttr])
        refine ⟨j + 1, StLe.auto (by simp only [sx2, encs, sxR, sevalprocAttr] <;> (try simp) <;> (try omega)), ?_, ?_⟩
        ·refine ⟨hjl, fun t h h2 => ?_⟩
         by_cases e : t = j
         ·subst e; simp [badW, hb]
         ·exact hjt t (by omega) h2
        ·omega
       ·simp only [↓sx0, sxE, encs, sevalprocAttr]
        rw [show partErr l[k] = 3 by rw [hpe, if_pos (.inl (List.any_eq_true.2 ⟨_, List.getElem_mem hjl, by simp [badW, hb]⟩))], if_neg (by decide)] at he
        rw [he]
        refine EndW.fn ?_ ?_ <;> simp only [sx4, encs, kpLL_map, sxR, sevalprocAttr] <;> (try simp) <;> (try omega)
      ·simp only [↓sx0, sxE, encs, sevalprocAttr]
       refine IxW.nat hlt ?_
       simp only [↓sx0, sxE, encs, sevalprocAttr]
       refine IxW.nat (j := 0) hpos ?_
       simp only [↓sx0, sxE, encs, sevalprocAttr]
       refine CallI.fn (isMarkR_s l[k].words[0]) (by simp only [sx3, encs, sxR, sevalprocAttr] <;> (try simp) <;> (try rfl)) ?_
       simp only [↓sx0, sxE, encs, sevalprocAttr]
       have hany : l[k].words.any badW = false := by
        rw [← Bool.not_eq_true, List.any_eq_true]
        rintro ⟨x, hx, hxb⟩
        obtain ⟨t, h2, rfl⟩ := List.getElem_of_mem hx
        rw [hjt t (by omega) h2] at hxb; cases hxb
       refine BrW.of (fun hm => ?_) (fun hm => ?_)
       ·simp only [↓sx0, sxE, encs, sevalprocAttr]
        rw [show partErr l[k] = 3 by rw [hpe, if_pos (.inr (by rw [headD_get hpos]; exact hm))], if_neg (by decide)] at he
        rw [he]
        refine EndW.fn ?_ ?_ <;> simp only [sx4, encs, kpLL_map, sxR, sevalprocAttr] <;> (try simp) <;> (try omega)
       ·simp only [↓sx0, sxE, encs, sevalprocAttr]
        rw [show partErr l[k] = 0 by rw [hpe, if_neg (by rw [headD_get hpos, hany, hm]; simp)], if_pos rfl] at he
        repeat ((with_reducible refine Vc.go ?_ fun _ => ?_); (focus (first | omega | (simp only [InK]; omega) | (simp [InK]; done) | (simp [InK]; omega))); simp only [↓sx0, sxE, encs, sevalprocAttr])
        refine ⟨k + 1, StLe.auto (by simp only [sx2, encs, sxR, sevalprocAttr] <;> (try simp) <;> (try omega)), ?_, ?_⟩
        ·exact ⟨hlt, he.symm⟩
        ·omega
   ·have hkd : ¬ (1 ≤ l[k].kind ∧ l[k].kind ≤ 3) := by simpa using hkd
    simp only [↓sx0, sxE, encs, sevalprocAttr]
    rw [show partErr l[k] = 15 by rw [partErr, if_neg hkd], if_neg (by decide)] at he
    rw [he]
    refine EndW.fn ?_ ?_ <;> simp only [sx4, encs, kpLL_map, sxR, sevalprocAttr] <;> (try simp) <;> (try omega)
  ·simp only [↓sx0, sxE, encs, sevalprocAttr]
   have hke : k = l.length := by omega
   subst hke
   rw [List.drop_length] at ht
   rw [← ht]
   refine EndW.fn ?_ ?_ <;> simp only [sx4, encs, kpLL_map, sxR, sevalprocAttr] <;> (try simp [partsE]) <;> (try omega)
end Go.Proofs.Ytenohgpackcjbaa
