/-
 Chapter 6, walks: the law of folds.
-/
import Derived.Test.YtgiegokdcmkfeaaGreatDoorVGD
import Derived.Test.YtgiegokdcmkfeaaGreatDoorVP6Each
set_option linter.unusedSimpArgs false
set_option linter.unusedVariables false
namespace Go.Proofs.YtgiegokdcmkfeaaGreatDoor
open Go Go.Vx
set_option maxRecDepth 20000
theorem folded_run {cn rn : Nat} {l : List Fold} (hs : sheetErr cn rn = 0) (hl : l.length ≤ 12) : foldedS cn rn l = if (runR cn rn l).2.2 ≠ 0 then ([], (runR cn rn l).2.1, (runR cn rn l).2.2) else if 1 < (runR cn rn l).1.ls.length then ([], l.length, 25) else ((runR cn rn l).1.ls.headD [], 0, 0) := by
 have hne := run_err l (flatP cn rn) 0
 unfold foldedS runR
 rw [if_neg (by simpa using hs), if_neg (by omega), Int.toNat_natCast, Int.toNat_natCast]
 generalize foldRun (flatP cn rn) 0 l = q at *
 obtain ⟨q, _ | ⟨i, e⟩⟩ := q
 ·rfl
 ·have := hne i e rfl
  simp [this]
theorem run_good1 {cn rn : Nat} {l : List Fold} (hc : 1 ≤ cn ∧ cn ≤ 8) (hr : 1 ≤ rn ∧ rn ≤ 8) (h : (runR cn rn l).2.2 = 0) : ∃ h', (runR cn rn l).1.Good h' := by
 have hne := run_err l (flatP cn rn) 0
 have hp := run_perm l (flatP cn rn) 0 1 (flatP_good (by omega) (by omega) (by omega) (by omega))
 unfold runR at h ⊢
 generalize foldRun (flatP cn rn) 0 l = q at *
 obtain ⟨q, _ | ⟨i, e⟩⟩ := q
 ·exact (hp rfl).2
 ·exact absurd h (hne i e rfl)
theorem checkFoldsR_s (b : Bool) (c r : Int) (l : List Fold) : Ctr Tryz.prog 6 [.agg [(.v (.int .i64 c)), (.v (.int .i64 r))], .sl b 2 (l.map eF)] (fun rr => rr = ⟨.tup [(.v (.int .i64 ((foldedS c r l).2.1))), (.v (.int .i64 ((foldedS c r l).2.2)))], []⟩) := by
 refine Ctr.of (rs := [.tmp 4, .tmp 5]) Tok true Tryz.func6 rfl rfl rfl rfl (by simp [ofDL]) (fun w0 kp => ?_)
 simp only [↓sx0, sxE, encs, sevalprocAttr]
 repeat ((with_reducible refine Vc.go ?_ fun _ => ?_); (focus (first | omega | (simp only [InK]; omega) | (simp [InK]; done) | (simp [InK]; omega))); simp only [↓sx0, sxE, encs, sevalprocAttr])
 refine CallI.fn (checkSheetR_s c r) (by simp only [sx3, encs, sxR, sevalprocAttr] <;> (try simp) <;> (try rfl)) ?_
 simp only [↓sx0, sxE, encs, sevalprocAttr]
 refine BrW.dec (fun he => ?_) (fun he => ?_)
 ·simp only [↓sx0, sxE, encs, sevalprocAttr]
  refine EndW.fn ?_ ?_ <;> simp only [sx4, encs, kpLL_map, sxR, sevalprocAttr] <;> (try simp [foldedS, he]) <;> (try omega)
 ·have he0 : sheetErr c r = 0 := Decidable.not_not.1 he
  have hsh := sheet_ok he0
  simp only [↓sx0, sxE, encs, sevalprocAttr]
  refine BrW.dec (fun hlen => ?_) (fun hlen => ?_)
  ·simp only [↓sx0, sxE, encs, sevalprocAttr]
   have : 12 < l.length := by omega
   refine EndW.fn ?_ ?_ <;> simp only [sx4, encs, kpLL_map, sxR, sevalprocAttr] <;> (try simp [foldedS, he0, this]) <;> (try omega)
  ·have hlen2 : l.length ≤ 12 := by omega
   obtain ⟨cn, rfl⟩ : ∃ cn : Nat, c = cn := ⟨c.toNat, by omega⟩
   obtain ⟨rn, rfl⟩ : ∃ rn : Nat, r = rn := ⟨r.toNat, by omega⟩
   have hfr := folded_run (l := l) he0 hlen2
   simp only [↓sx0, sxE, encs, sevalprocAttr]
   repeat ((with_reducible refine Vc.go ?_ fun _ => ?_); (focus (first | omega | (simp only [InK]; omega) | (simp [InK]; done) | (simp [InK]; omega))); simp only [↓sx0, sxE, encs, sevalprocAttr])
   refine CallI.fn (foldedR_s b cn rn l (by omega) (by omega) hlen2) (by simp only [sx3, encs, sxR, sevalprocAttr] <;> (try simp) <;> (try rfl)) ?_
   simp only [↓sx0, sxE, encs, sevalprocAttr]
   refine BrW.dec (fun h1 => ?_) (fun h1 => ?_)
   ·simp only [↓sx0, sxE, encs, sevalprocAttr]
    refine EndW.fn ?_ ?_ <;> simp only [sx4, encs, kpLL_map, sxR, sevalprocAttr] <;> (try simp [hfr, h1]) <;> (try omega)
   ·have h10 : (runR cn rn l).2.2 = 0 := Decidable.not_not.1 h1
    obtain ⟨h', hg⟩ := run_good1 (by omega) (by omega) h10
    have hpl := hg.len
    have hpos : 1 * 1 ≤ (runR cn rn l).1.rows * (runR cn rn l).1.cols := Nat.mul_le_mul hg.r1 hg.c1
    simp only [↓sx0, sxE, encs, sevalprocAttr]
    refine BrW.dec (fun h2 => ?_) (fun h2 => ?_)
    ·have h3 : 1 < (runR cn rn l).1.ls.length := by omega
     simp only [↓sx0, sxE, encs, sevalprocAttr]
     refine EndW.fn ?_ ?_ <;> simp only [sx4, encs, kpLL_map, sxR, sevalprocAttr] <;> (try simp [hfr, h10, h3]) <;> (try omega)
    ·have h3 : ¬ 1 < (runR cn rn l).1.ls.length := by omega
     simp only [↓sx0, sxE, encs, sevalprocAttr]
     refine EndW.fn ?_ ?_ <;> simp only [sx4, encs, kpLL_map, sxR, sevalprocAttr] <;> (try simp [hfr, h10, h3]) <;> (try omega)
def seenA (c : Int) (s : List Leaf) (k : Nat) : List Int := (s.take k).map (atI c)
end Go.Proofs.YtgiegokdcmkfeaaGreatDoor
/-
 Chapter 6, walks: right schemes (the document's answer).
-/
namespace Go.Proofs.YtgiegokdcmkfeaaGreatDoor
open Go Go.Vx
set_option maxRecDepth 20000
def clOk (n : Nat) (x : Cell) : Bool := decide ((1 ≤ x.front ∧ x.front ≤ 2 * n) ∧ (1 ≤ x.back ∧ x.back ≤ 2 * n) ∧ (0 ≤ x.fturn ∧ x.fturn ≤ 1) ∧ (0 ≤ x.bturn ∧ x.bturn ≤ 1))
/-- cells one by one: the first that is wrong, and its error. -/
def schK (n : Nat) : List Int → Nat → List Cell → Int × Int
 | _, _, [] => (0, 0)
 | seen, i, x :: l => if clOk n x = false then (i, 2) else if x.front ∈ seen ∨ x.back ∈ seen ∨ x.front = x.back then (i, 28) else schK n (seen ++ [x.front, x.back]) (i + 1) l
def schS (c r : Int) (l : List Cell) : Int × Int :=
 if sheetErr c r ≠ 0 then (0, sheetErr c r) else if ¬ (l.length : Int) = c * r then (0, 10) else schK l.length [] 0 l
def seenK (l : List Cell) (k : Nat) : List Int := (l.take k).flatMap fun x => [x.front, x.back]
theorem seenK_zero (l : List Cell) : seenK l 0 = [] := rfl
theorem seenK_succ {l : List Cell} {k : Nat} (h : k < l.length) : seenK l (k + 1) = seenK l k ++ [l[k].front, l[k].back] := by
 unfold seenK
 rw [List.take_succ_eq_append_getElem h, List.flatMap_append]
 rfl
theorem clOk_iff {n : Nat} {x : Cell} : clOk n x = true ↔ (1 ≤ x.front ∧ x.front ≤ 2 * n) ∧ (1 ≤ x.back ∧ x.back ≤ 2 * n) ∧ (0 ≤ x.fturn ∧ x.fturn ≤ 1) ∧ (0 ≤ x.bturn ∧ x.bturn ≤ 1) := by simp [clOk]
end Go.Proofs.YtgiegokdcmkfeaaGreatDoor
/-
 Chapter 6, walks: right schemes (the program).
-/
namespace Go.Proofs.YtgiegokdcmkfeaaGreatDoor
open Go Go.Vx
set_option maxRecDepth 20000
def eB (b : Bool) : List D := [.v (.bool b)]
def bl (n : Nat) (seen : List Int) : List Bool := (List.range (2 * n + 1)).map fun (j : Nat) => decide ((j : Int) ∈ seen)
theorem bl_len (n : Nat) (seen : List Int) : (bl n seen).length = 2 * n + 1 := by simp [bl]
theorem bl_get (n : Nat) (seen : List Int) {j : Int} (h0 : 0 ≤ j) (h1 : j ≤ 2 * n) : (bl n seen)[j.toNat]? = some (decide (j ∈ seen)) := by
 obtain ⟨i, rfl⟩ : ∃ i : Nat, j = i := ⟨j.toNat, by omega⟩
 simp [bl, List.getElem?_range (show i < 2 * n + 1 by omega)]
theorem bl_set (n : Nat) (seen : List Int) {a : Int} (h0 : 0 ≤ a) (_h1 : a ≤ 2 * n) : (bl n seen).set a.toNat true = bl n (seen ++ [a]) := by
 refine List.ext_getElem (by simp [bl]) fun i h2 h3 => ?_
 rw [List.getElem_set]
 simp only [bl, List.getElem_map, List.getElem_range, List.mem_append, List.mem_singleton]
 by_cases h : a.toNat = i
 ·rw [if_pos h, eq_comm, decide_eq_true_iff]; exact .inr (by omega)
 ·rw [if_neg h]; congr 1; simp only [eq_iff_iff]; constructor
  ·exact .inl
  ·rintro (h | h)
   ·exact h
   ·omega
theorem bl_mark (n : Nat) (seen : List Int) {a b : Int} (h0 : 0 ≤ a) (h1 : a ≤ 2 * n) (h2 : 0 ≤ b) (h3 : b ≤ 2 * n) :
  (((bl n seen).map eB).modify a.toNat (modE · 0 [.v (.bool true)])).modify b.toNat (modE · 0 [.v (.bool true)]) = (bl n (seen ++ [a, b])).map eB := by
 have e1 : ((bl n seen).map eB).modify a.toNat (modE · 0 [.v (.bool true)]) = (bl n (seen ++ [a])).map eB := by
  rw [← bl_set n seen h0 h1]; exact modify_map (bl_get n seen h0 h1) true rfl
 have e2 : ((bl n (seen ++ [a])).map eB).modify b.toNat (modE · 0 [.v (.bool true)]) = (bl n (seen ++ [a] ++ [b])).map eB := by
  rw [← bl_set n (seen ++ [a]) h2 h3]; exact modify_map (bl_get n (seen ++ [a]) h2 h3) true rfl
 rw [e1, e2, List.append_assoc]; rfl
theorem checkScheme_s (b : Bool) (c r : Int) (l : List Cell) : Ctr Tryz.prog 69 [.agg [(.v (.int .i64 c)), (.v (.int .i64 r)), .sl b 4 (l.map eC)]] (fun rr => rr = ⟨.tup [(.v (.int .i64 ((schS c r l).1))), (.v (.int .i64 ((schS c r l).2)))], []⟩) := by
 have encs := And.intro encs (fun b => show eB b = [.v (.bool b)] from rfl)
 refine Ctr.of (rs := [.tmp 2, .tmp 3]) Tok true Tryz.func69 rfl rfl rfl rfl (by simp [ofDL]) (fun w0 kp => ?_)
 simp only [↓sx0, sxE, encs, sevalprocAttr]
 refine CallI.fn (checkSheet_s c r) (by simp only [sx3, encs, sxR, sevalprocAttr] <;> (try simp) <;> (try rfl)) ?_
 simp only [↓sx0, sxE, encs, sevalprocAttr]
 refine BrW.dec (fun he => ?_) (fun he => ?_)
 ·simp only [↓sx0, sxE, encs, sevalprocAttr]
  refine EndW.fn ?_ ?_ <;> simp only [sx4, encs, kpLL_map, sxR, sevalprocAttr] <;> (try simp [schS, he]) <;> (try omega)
 ·simp only [↓sx0, sxE, encs, sevalprocAttr]
  have he0 : sheetErr c r = 0 := Decidable.not_not.1 he
  have hsh := sheet_ok he0
  have b1 : c * r ≤ 8 * 8 := Int.mul_le_mul hsh.2.1 hsh.2.2.2 (by omega) (by omega)
  have b2 : 0 ≤ c * r := Int.mul_nonneg (by omega) (by omega)
  (with_reducible refine Vc.go ?_ fun _ => ?_); focus (first | omega | (simp only [InK]; omega) | (simp [InK]; done) | (simp [InK]; omega))
  simp only [↓sx0, sxE, encs, sevalprocAttr]
  refine BrW.dec (fun hln => ?_) (fun hln => ?_)
  ·simp only [↓sx0, sxE, encs, sevalprocAttr]
   refine EndW.fn ?_ ?_ <;> simp only [sx4, encs, kpLL_map, sxR, sevalprocAttr] <;> (try simp [schS, he0, hln]) <;> (try omega)
  ·simp only [↓sx0, sxE, encs, sevalprocAttr]
   have hln0 := Decidable.not_not.1 hln
   repeat ((with_reducible refine Vc.go ?_ fun _ => ?_); (focus (first | omega | (simp only [InK]; omega) | (simp [InK]; done) | (simp [InK]; omega))); simp only [↓sx0, sxE, encs, sevalprocAttr])
   rw [← hln0]
   have hrep : List.replicate (2 * (l.length : Int) + 1).toNat [D.v (.bool false)] = (bl l.length (seenK l 0)).map eB := by
    rw [show (2 * (l.length : Int) + 1).toNat = 2 * l.length + 1 by omega]
    refine List.ext_getElem (by simp [bl]) fun i h1 h2 => ?_
    simp [bl, seenK_zero, eB]
   rw [hrep]
   refine LoopW.comp [5, 6, 32, 33, 34] (by simp only [sx2, encs, sxR, sevalprocAttr] <;> (try simp) <;> (try omega)) ?_
   simp only [sx2, sxR, sevalprocAttr]
   refine LoopW.up Tok (fun k : Nat => [(34, (.v (.int .i64 k)))]) (fun k => []) (fun k => [(0, (bl l.length (seenK l k)).map eB)]) (fun k => []) (fun k => k ≤ l.length ∧ schK l.length [] 0 l = schK l.length (seenK l k) k (l.drop k)) (fun k => l.length - k) (0) (by simp only [sx2, encs, sxR, sevalprocAttr] <;> (try simp) <;> (try omega)) ?_ ?_
   ·exact ⟨by omega, by simp [seenK_zero]⟩
   rintro k ⟨hk, hs⟩
   simp only [↓sx0, sxE, encs, sevalprocAttr]
   refine BrW.dec (fun hlt => ?_) (fun hlt => ?_)
   ·have hk2 : k < l.length := by omega
    rw [List.drop_eq_getElem_cons hk2, schK] at hs
    simp only [↓sx0, sxE, encs, sevalprocAttr]
    refine IxW.nat hk2 ?_
    simp only [↓sx0, sxE, encs, sevalprocAttr]
    repeat ((with_reducible refine Vc.go ?_ fun _ => ?_); (focus (first | omega | (simp only [InK]; omega) | (simp [InK]; done) | (simp [InK]; omega))); simp only [↓sx0, sxE, encs, sevalprocAttr])
    refine CallI.fn (within_s l[k].front 1 (2 * l.length)) (by simp only [sx3, encs, sxR, sevalprocAttr] <;> (try simp) <;> (try rfl)) ?_
    simp only [↓sx0, sxE, encs, sevalprocAttr]
    refine BrW.dec (fun g1 => ?_) (fun g1 => ?_)
    ·simp only [↓sx0, sxE, encs, sevalprocAttr]
     repeat ((with_reducible refine Vc.go ?_ fun _ => ?_); (focus (first | omega | (simp only [InK]; omega) | (simp [InK]; done) | (simp [InK]; omega))); simp only [↓sx0, sxE, encs, sevalprocAttr])
     refine CallI.fn (within_s l[k].back 1 (2 * l.length)) (by simp only [sx3, encs, sxR, sevalprocAttr] <;> (try simp) <;> (try rfl)) ?_
     simp only [↓sx0, sxE, encs, sevalprocAttr]
     refine BrW.dec (fun g2 => ?_) (fun g2 => ?_)
     ·simp only [↓sx0, sxE, encs, sevalprocAttr]
      refine CallI.fn (within_s l[k].fturn 0 1) (by simp only [sx3, encs, sxR, sevalprocAttr] <;> (try simp) <;> (try rfl)) ?_
      simp only [↓sx0, sxE, encs, sevalprocAttr]
      refine BrW.dec (fun g3 => ?_) (fun g3 => ?_)
      ·simp only [↓sx0, sxE, encs, sevalprocAttr]
       refine CallI.fn (within_s l[k].bturn 0 1) (by simp only [sx3, encs, sxR, sevalprocAttr] <;> (try simp) <;> (try rfl)) ?_
       simp only [↓sx0, sxE, encs, sevalprocAttr]
       refine BrW.dec (fun g4 => ?_) (fun g4 => ?_)
       ·simp only [↓sx0, sxE, encs, sevalprocAttr]
        have hb : ¬ clOk l.length l[k] = false := by rw [Bool.not_eq_false, clOk_iff]; omega
        rw [if_neg hb] at hs
        have q1 := bl_get l.length (seenK l k) (j := l[k].front) (by omega) (by omega)
        have q2 := bl_get l.length (seenK l k) (j := l[k].back) (by omega) (by omega)
        (with_reducible refine Vc.go ?_ fun _ => ?_); focus (first | omega | (simp only [InK]; omega) | (simp [bl_len, InK]; done) | (simp [bl_len, InK]; omega))
        simp only [↓sx0, sxE, encs, sevalprocAttr]
        refine IxW.map _ (by omega) q1 ?_
        simp only [↓sx0, sxE, encs, sevalprocAttr]
        refine BrW.dec (fun g5 => ?_) (fun g5 => ?_)
        ·simp only [↓sx0, sxE, encs, sevalprocAttr]
         rw [if_pos (.inl g5)] at hs
         refine EndW.fn ?_ ?_ <;> simp only [sx4, encs, kpLL_map, sxR, sevalprocAttr] <;> (try simp [schS, he0, hln0, hs]) <;> (try omega)
        ·simp only [↓sx0, sxE, encs, sevalprocAttr]
         (with_reducible refine Vc.go ?_ fun _ => ?_); focus (first | omega | (simp only [InK]; omega) | (simp [bl_len, InK]; done) | (simp [bl_len, InK]; omega))
         simp only [↓sx0, sxE, encs, sevalprocAttr]
         refine IxW.map _ (by omega) q2 ?_
         simp only [↓sx0, sxE, encs, sevalprocAttr]
         refine BrW.dec (fun g6 => ?_) (fun g6 => ?_)
         ·simp only [↓sx0, sxE, encs, sevalprocAttr]
          rw [if_pos (.inr (.inl g6))] at hs
          refine EndW.fn ?_ ?_ <;> simp only [sx4, encs, kpLL_map, sxR, sevalprocAttr] <;> (try simp [schS, he0, hln0, hs]) <;> (try omega)
         ·simp only [↓sx0, sxE, encs, sevalprocAttr]
          refine BrW.dec (fun g7 => ?_) (fun g7 => ?_)
          ·simp only [↓sx0, sxE, encs, sevalprocAttr]
           rw [if_pos (.inr (.inr g7))] at hs
           refine EndW.fn ?_ ?_ <;> simp only [sx4, encs, kpLL_map, sxR, sevalprocAttr] <;> (try simp [schS, he0, hln0, hs]) <;> (try omega)
          ·simp only [↓sx0, sxE, encs, sevalprocAttr]
           rw [if_neg (by simp only [g5, g6, g7, or_self, not_false_eq_true])] at hs
           refine DrawW.plan Tok mixed (.q 0 <| .q 1 <| .q 2 <| .q 3 <| .q 4 <| .q 5 <| .q 6 <| .e 7 [5] <| .q 8 <| .e 9 [] <| .done) (by kernel_rfl) (by kernel_rfl) ?_
           simp only [↓sx0, sxE, encs, sevalprocAttr]
           repeat ((with_reducible refine Vc.go ?_ fun _ => ?_); (focus (first | omega | (simp only [InK]; omega) | (simp [bl_len, InK]; done) | (simp [bl_len, InK]; omega))); simp only [↓sx0, sxE, encs, sevalprocAttr])
           have hm : (((bl l.length (seenK l k)).map eB).modify (l[k].front).toNat (modE · 0 [D.v (.bool true)])).modify (l[k].back).toNat (modE · 0 [D.v (.bool true)]) = (bl l.length (seenK l (k + 1))).map eB := by
            rw [seenK_succ hk2]; exact bl_mark _ _ (by omega) (by omega) (by omega) (by omega)
           rw [hm]
           refine ⟨k + 1, StLe.auto (by simp only [sx2, encs, sxR, sevalprocAttr] <;> (try simp) <;> (try omega)), ?_, ?_⟩
           ·exact ⟨hk2, by rw [seenK_succ hk2]; exact hs⟩
           ·omega
       ·simp only [↓sx0, sxE, encs, sevalprocAttr]
        have hb : clOk l.length l[k] = false := by rw [← Bool.not_eq_true, clOk_iff]; omega
        rw [if_pos hb] at hs
        refine EndW.fn ?_ ?_ <;> simp only [sx4, encs, kpLL_map, sxR, sevalprocAttr] <;> (try simp [schS, he0, hln0, hs]) <;> (try omega)
      ·simp only [↓sx0, sxE, encs, sevalprocAttr]
       have hb : clOk l.length l[k] = false := by rw [← Bool.not_eq_true, clOk_iff]; omega
       rw [if_pos hb] at hs
       refine EndW.fn ?_ ?_ <;> simp only [sx4, encs, kpLL_map, sxR, sevalprocAttr] <;> (try simp [schS, he0, hln0, hs]) <;> (try omega)
     ·simp only [↓sx0, sxE, encs, sevalprocAttr]
      have hb : clOk l.length l[k] = false := by rw [← Bool.not_eq_true, clOk_iff]; omega
      rw [if_pos hb] at hs
      refine EndW.fn ?_ ?_ <;> simp only [sx4, encs, kpLL_map, sxR, sevalprocAttr] <;> (try simp [schS, he0, hln0, hs]) <;> (try omega)
    ·simp only [↓sx0, sxE, encs, sevalprocAttr]
     have hb : clOk l.length l[k] = false := by rw [← Bool.not_eq_true, clOk_iff]; omega
     rw [if_pos hb] at hs
     refine EndW.fn ?_ ?_ <;> simp only [sx4, encs, kpLL_map, sxR, sevalprocAttr] <;> (try simp [schS, he0, hln0, hs]) <;> (try omega)
   ·simp only [↓sx0, sxE, encs, sevalprocAttr]
    have hke : k = l.length := by omega
    subst hke
    rw [List.drop_length, schK] at hs
    refine EndW.fn ?_ ?_ <;> simp only [sx4, encs, kpLL_map, sxR, sevalprocAttr] <;> (try simp [schS, he0, hln0, hs]) <;> (try omega)
end Go.Proofs.YtgiegokdcmkfeaaGreatDoor
/-
 Chapter 6, walks: both views of a scheme, and the law of schemes.
-/
namespace Go.Proofs.YtgiegokdcmkfeaaGreatDoor
open Go Go.Vx
set_option maxRecDepth 20000
theorem viewOf_s (f : Nat) (caps : List SV) (hren : ∀ γ, renL γ caps = caps) (hle : ∀ β γ, leL β γ caps caps = True) (hlend : ∀ rw bx, argOk rw bx caps caps = True) (cols rows : Nat) (g : Nat → Nat → Page) (hof : ∀ c r, c < cols → r < rows → Ctr Tryz.prog f ([(.v (.int .i64 c)), (.v (.int .i64 r))] ++ caps) (fun rr => rr = ⟨.agg [(.v (.int .i64 ((g c r).page))), (.v (.int .i64 ((g c r).turn)))], []⟩)) (hc : cols ≤ 1000) (hr : rows ≤ 1000) :
  Ctr Tryz.prog 47 [(.v (.int .i64 cols)), (.v (.int .i64 rows)), .clo f caps] (fun rr => rr = ⟨.agg [(.v (.int .i64 cols)), (.v (.int .i64 rows)), .sl true 2 ((grid cols rows g).map eP)], []⟩) := by
 have hsz : rows * cols ≤ 1000 * 1000 := Nat.mul_le_mul hr hc
 have encs := And.intro encs (And.intro hren (And.intro hle hlend))
 refine Ctr.of (rs := [.cell 6 45]) Tok true Tryz.func47 rfl rfl rfl rfl (by simp [ofDL]) (fun w0 kp => ?_)
 simp only [↓sx0, sxE, encs, sevalprocAttr]
 refine LoopW.comp [0, 2, 6, 7, 13, 14] (by simp only [sx2, encs, sxR, sevalprocAttr] <;> (try simp) <;> (try omega)) ?_
 simp only [sx2, sxR, sevalprocAttr]
 refine LoopW.up Tok (fun r : Nat => [(14, (.v (.int .i64 r)))]) (fun r => [(1, [(.v (.int .i64 cols)), (.v (.int .i64 rows)), .row 0])]) (fun r => []) (fun r => [.own 117 2 ((grid cols r g).map eP)]) (fun r => r ≤ rows) (fun r => rows - r) (0) (by simp only [sx2, encs, sxR, sevalprocAttr] <;> (try simp) <;> (try omega)) ?_ ?_
 ·omega
 rintro r hr1
 simp only [↓sx0, sxE, encs, sevalprocAttr]
 refine BrW.dec (fun hlt => ?_) (fun hlt => ?_)
 ·simp only [↓sx0, sxE, encs, sevalprocAttr]
  have hr2 : r < rows := by omega
  refine LoopW.comp [0, 2, 6, 7, 8, 13, 14, 17, 18] (by simp only [sx2, encs, sxR, sevalprocAttr] <;> (try simp) <;> (try omega)) ?_
  simp only [sx2, sxR, sevalprocAttr]
  refine LoopW.up Tok (fun k : Nat => [(18, (.v (.int .i64 k)))]) (fun k => []) (fun k => [(0, ((grid cols r g) ++ gridRow k g r).map eP)]) (fun k => []) (fun k => k ≤ cols) (fun k => cols - k) (0) (by simp only [sx2, encs, sxR, sevalprocAttr] <;> (try simp) <;> (try omega)) ?_ ?_
  ·omega
  rintro k hk1
  have hlen : r * cols + k ≤ 1000000 := by
   have h1 : (r + 1) * cols ≤ rows * cols := Nat.mul_le_mul_right _ hr2
   rw [Nat.succ_mul] at h1
   omega
  simp only [↓sx0, sxE, encs, sevalprocAttr]
  refine BrW.dec (fun hlt2 => ?_) (fun hlt2 => ?_)
  ·simp only [↓sx0, sxE, encs, sevalprocAttr]
   refine DrawW.plan Tok mixed (.q 0 <| .q 1 <| .q 2 <| .q 3 <| .q 4 <| .e 5 [1] <| .e 6 [1] <| .e 7 [] <| .q 8 <| .e 9 [] <| .done) (by kernel_rfl) (by kernel_rfl) ?_
   simp only [↓sx0, sxE, encs, sevalprocAttr]
   refine CallI.fn (hof k r (by omega) hr2) (by simp only [sx3, encs, sxR, sevalprocAttr] <;> (try simp) <;> (try rfl)) ?_
   simp only [↓sx0, sxE, encs, sevalprocAttr]
   (with_reducible refine Vc.go ?_ fun _ => ?_); focus (first | omega | (simp only [InK]; omega) | (simp [grid_length, gridRow_length, InK]; done) | (simp [grid_length, gridRow_length, InK]; omega))
   simp only [↓sx0, sxE, encs, sevalprocAttr]
   (with_reducible refine Vc.go ?_ fun _ => ?_); focus (first | omega | (simp only [InK]; omega) | (simp [InK]; done) | (simp [InK]; omega))
   simp only [↓sx0, sxE, encs, sevalprocAttr]
   refine ⟨k + 1, StLe.auto (by simp only [sx2, encs, sxR, sevalprocAttr] <;> (try simp [gridRow_succ, encs]) <;> (try omega)), ?_, ?_⟩
   ·omega
   ·omega
  ·simp only [↓sx0, sxE, encs, sevalprocAttr]
   have : k = cols := by omega
   subst this
   (with_reducible refine Vc.go ?_ fun _ => ?_); focus (first | omega | (simp only [InK]; omega) | (simp [InK]; done) | (simp [InK]; omega))
   simp only [↓sx0, sxE, encs, sevalprocAttr]
   refine ⟨r + 1, StLe.auto (by simp only [sx2, encs, sxR, sevalprocAttr] <;> (try simp [grid_succ, encs]) <;> (try omega)), ?_, ?_⟩
   ·omega
   ·omega
 ·simp only [↓sx0, sxE, encs, sevalprocAttr]
  have : r = rows := by omega
  subst this
  refine EndW.fn ?_ ?_ <;> simp only [sx4, encs, kpLL_map, sxR, sevalprocAttr] <;> (try simp) <;> (try omega)
def frPage (c : Nat) (l : List Cell) (k q : Nat) : Page := ⟨(l.getD (q * c + k) zC).front, (l.getD (q * c + k) zC).fturn⟩
theorem check_s (b : Bool) (c r : Int) (l : List Cell) : Ctr Tryz.prog 30 [.agg [(.v (.int .i64 c)), (.v (.int .i64 r)), .sl b 4 (l.map eC)]] (fun rr => rr = ⟨(.v (.int .i64 ((schS c r l).2))), []⟩) := by
 refine Ctr.of (rs := [.tmp 2]) Tok true Tryz.func30 rfl rfl rfl rfl (by simp [ofDL]) (fun w0 kp => ?_)
 simp only [↓sx0, sxE, encs, sevalprocAttr]
 refine CallI.fn (checkScheme_s b c r l) (by simp only [sx3, encs, sxR, sevalprocAttr] <;> (try simp) <;> (try rfl)) ?_
 simp only [↓sx0, sxE, encs, sevalprocAttr]
 refine EndW.fn ?_ ?_ <;> simp only [sx4, encs, kpLL_map, sxR, sevalprocAttr] <;> (try simp) <;> (try omega)
theorem sch_fine {c r : Int} {l : List Cell} (h : (schS c r l).2 = 0) : ∃ cn rn : Nat, c = cn ∧ r = rn ∧ 1 ≤ cn ∧ cn ≤ 8 ∧ 1 ≤ rn ∧ rn ≤ 8 ∧ l.length = rn * cn ∧ sheetErr c r = 0 := by
 unfold schS at h
 by_cases h1 : sheetErr c r = 0
 ·have hs := sheet_ok h1
  by_cases h2 : (l.length : Int) = c * r
  ·refine ⟨c.toNat, r.toNat, by omega, by omega, by omega, by omega, by omega, by omega, ?_, h1⟩
   have : (l.length : Int) = ((r.toNat * c.toNat : Nat) : Int) := by
    rw [h2]; push_cast; rw [Int.toNat_of_nonneg (by omega), Int.toNat_of_nonneg (by omega)]; exact Int.mul_comm _ _
   exact_mod_cast this
  ·simp only [h1, h2, ne_eq, not_true_eq_false, not_false_eq_true, if_false, if_true] at h; omega
 ·simp only [h1, ne_eq, not_false_eq_true, if_true] at h
def vwS (g : Nat → List Cell → Nat → Nat → Page) (c r : Int) (l : List Cell) : Int × Int × List Page := if (schS c r l).2 ≠ 0 then (0, 0, []) else (c, r, grid c.toNat r.toNat (g c.toNat l))
def frOf (x : Cell) : Page := ⟨x.front, x.fturn⟩
def frT (l : List Cell) (k : Nat) : List Page := (l.take k).map frOf
end Go.Proofs.YtgiegokdcmkfeaaGreatDoor
/-
 Chapter 6, walks: what a pile reads.
-/
namespace Go.Proofs.YtgiegokdcmkfeaaGreatDoor
open Go Go.Vx
set_option maxRecDepth 20000
def xr (a b : Int) : Int := if a = b then 0 else 1
def rdC (cn : Nat) (cells : List Cell) (x : Leaf) : Cell := cells.getD (x.row.toNat * cn + x.col.toNat) zC
def rdP (cn : Nat) (cells : List Cell) (x : Leaf) : List Page :=
 if x.over = 1 then [⟨(rdC cn cells x).back, xr (rdC cn cells x).bturn x.round⟩, ⟨(rdC cn cells x).front, xr (rdC cn cells x).fturn x.round⟩]
 else [⟨(rdC cn cells x).front, xr (rdC cn cells x).fturn x.round⟩, ⟨(rdC cn cells x).back, xr (rdC cn cells x).bturn x.round⟩]
/-- what the first leaves read. -/
def rdK (cn : Nat) (cells : List Cell) (s : List Leaf) (k : Nat) : List Page := (s.take k).flatMap (rdP cn cells)
theorem rdK_zero (cn : Nat) (cells : List Cell) (s : List Leaf) : rdK cn cells s 0 = [] := rfl
theorem rdK_succ {cn : Nat} {cells : List Cell} {s : List Leaf} {k : Nat} (h : k < s.length) : rdK cn cells s (k + 1) = rdK cn cells s k ++ rdP cn cells s[k] := by
 unfold rdK; rw [List.take_succ_eq_append_getElem h, List.flatMap_append]; simp
theorem rdP_len (cn : Nat) (cells : List Cell) (x : Leaf) : (rdP cn cells x).length = 2 := by unfold rdP; split <;> rfl
theorem rdL_len (cn : Nat) (cells : List Cell) : ∀ s : List Leaf, (s.flatMap (rdP cn cells)).length = 2 * s.length
 | [] => rfl
 | x :: s => by rw [List.flatMap_cons, List.length_append, rdP_len, rdL_len cn cells s, List.length_cons]; omega
theorem rdK_len {cn : Nat} {cells : List Cell} {s : List Leaf} {k : Nat} (h : k ≤ s.length) : (rdK cn cells s k).length = 2 * k := by
 unfold rdK; rw [rdL_len, List.length_take]; omega
theorem rdK_end (cn : Nat) (cells : List Cell) (s : List Leaf) : rdK cn cells s s.length = s.flatMap (rdP cn cells) := by
 unfold rdK; rw [List.take_length]
/-- leaves of a sheet, with turns. -/
def LfOk (cn rn : Nat) (x : Leaf) : Prop := ((0 ≤ x.over ∧ x.over ≤ 1) ∧ 0 ≤ x.round ∧ x.round ≤ 1) ∧ (0 ≤ x.col ∧ x.col < cn) ∧ 0 ≤ x.row ∧ x.row < rn
def TnOk (x : Cell) : Prop := (0 ≤ x.fturn ∧ x.fturn ≤ 1) ∧ 0 ≤ x.bturn ∧ x.bturn ≤ 1
theorem rd_get {cn rn : Nat} {cells : List Cell} (hl : cells.length = rn * cn) {x : Leaf} (h : LfOk cn rn x) (ht : ∀ y ∈ cells, TnOk y) : (0 ≤ x.row * (cn : Int) ∧ x.row * (cn : Int) + x.col < (rn * cn : Nat)) ∧ (0 ≤ x.row * (cn : Int) + x.col ∧ cells[(x.row * (cn : Int) + x.col).toNat]? = some (rdC cn cells x)) ∧ TnOk (rdC cn cells x) := by
 obtain ⟨-, ⟨c1, c2⟩, r1, r2⟩ := h
 have hq : x.row.toNat < rn := by omega
 have hk : x.col.toNat < cn := by omega
 have e : x.row * (cn : Int) + x.col = ((x.row.toNat * cn + x.col.toNat : Nat) : Int) := by
  push_cast; rw [Int.toNat_of_nonneg r1, Int.toNat_of_nonneg c1]
 have i := twGet zC hl hq hk e
 refine ⟨⟨Int.mul_nonneg r1 (by omega), ?_⟩, i, ht _ (List.mem_of_getElem? i.2)⟩
 rw [e]
 exact_mod_cast cell_lt hq hk
set_option maxHeartbeats 2000000 in
theorem read_s (b b' : Bool) (cn rn : Nat) (cells : List Cell) (s : List Leaf) (hc : cn ≤ 8) (hr : rn ≤ 8) (hl : cells.length = rn * cn) (hs : ∀ x ∈ s, LfOk cn rn x) (ht : ∀ y ∈ cells, TnOk y) (hsl : s.length ≤ 4096) : Ctr Tryz.prog 54 [.agg [(.v (.int .i64 cn)), (.v (.int .i64 rn)), .sl b 4 (cells.map eC)], .sl b' 4 (s.map eL)] (fun rr => rr = ⟨.sl true 2 ((s.flatMap (rdP cn cells)).map eP), []⟩) := by
 have hrc : rn * cn ≤ 8 * 8 := Nat.mul_le_mul hr hc
 refine Ctr.of (rs := [.tmp 4]) Tok true Tryz.func54 rfl rfl rfl rfl (by simp [ofDL]) (fun w0 kp => ?_)
 simp only [↓sx0, sxE, encs, sevalprocAttr]
 refine LoopW.comp [2, 5, 11, 12, 13] (by simp only [sx2, encs, sxR, sevalprocAttr] <;> (try simp) <;> (try omega)) ?_
 simp only [sx2, sxR, sevalprocAttr]
 refine LoopW.up Tok (fun k : Nat => [(5, .row 0), (13, (.v (.int .i64 k)))]) (fun k => []) (fun k => []) (fun k => [.own 117 2 ((rdK cn cells s k).map eP)]) (fun k => k ≤ s.length) (fun k => s.length - k) (0) (by simp only [sx2, encs, sxR, sevalprocAttr] <;> (try simp [rdK_zero, encs]) <;> (try omega)) ?_ ?_
 ·omega
 rintro k hk
 have hkl := rdK_len (cn := cn) (cells := cells) hk
 simp only [↓sx0, sxE, encs, sevalprocAttr]
 refine BrW.dec (fun hlt => ?_) (fun hlt => ?_)
 ·have hk2 : k < s.length := by omega
  have hlf := hs _ (List.getElem_mem hk2)
  obtain ⟨⟨j1, j2⟩, i1, t1, t2⟩ := rd_get hl hlf ht
  obtain ⟨⟨f1, f2⟩, ⟨c1, c2⟩, r1, r2⟩ := hlf
  have hsu := rdK_succ (cn := cn) (cells := cells) hk2
  simp only [↓sx0, sxE, encs, sevalprocAttr]
  refine IxW.nat hk2 ?_
  simp only [↓sx0, sxE, encs, sevalprocAttr]
  repeat ((with_reducible refine Vc.go ?_ fun _ => ?_); (focus (first | omega | (simp only [InK]; omega) | (simp [InK]; done) | (simp [InK]; omega))); simp only [↓sx0, sxE, encs, sevalprocAttr])
  refine IxW.map _ i1.1 i1.2 ?_
  simp only [↓sx0, sxE, encs, sevalprocAttr]
  refine DrawW.plan Tok mixed (.q 0 <| .q 1 <| .q 2 <| .q 3 <| .q 4 <| .q 5 <| .q 6 <| .q 7 <| .q 8 <| .q 9 <| .q 10 <| .q 11 <| .q 12 <| .q 13 <| .q 14 <| .q 15 <| .e2 16 [1, 3, 5, 9, 11, 13] (.e 17 [1, 3, 5, 9, 11, 13] <| .e 18 [9, 11, 13] <| .e 19 [] <| .done) 17 [1, 3, 5, 9, 11, 13] (.e 16 [1, 3, 5, 9, 11, 13] <| .e 18 [9, 11, 13] <| .e 19 [] <| .done)) (by kernel_rfl) (by kernel_rfl) ?_
  simp only [↓sx0, sxE, encs, sevalprocAttr]
  repeat ((with_reducible refine Vc.go ?_ fun _ => ?_); (focus (first | omega | (simp only [InK]; omega) | (simp [InK]; done) | (simp [InK]; omega))); simp only [↓sx0, sxE, encs, sevalprocAttr])
  refine ⟨?_, ?_⟩
  all_goals
   refine BrW.dec (fun ho => ?_) (fun ho => ?_)
   ·have hPt : rdP cn cells s[k] = [⟨(rdC cn cells s[k]).back, if (rdC cn cells s[k]).bturn = s[k].round then 0 else 1⟩, ⟨(rdC cn cells s[k]).front, if (rdC cn cells s[k]).fturn = s[k].round then 0 else 1⟩] := by unfold rdP; rw [if_pos ho]; rfl
    simp only [↓sx0, sxE, encs, sevalprocAttr]
    repeat ((with_reducible refine Vc.go ?_ fun _ => ?_); (focus (first | omega | (simp only [InK]; omega) | (simp [hkl, InK]; done) | (simp [hkl, InK]; omega))); simp only [↓sx0, sxE, encs, sevalprocAttr])
    refine ⟨k + 1, StLe.auto (by simp only [sx2, encs, sxR, sevalprocAttr] <;> (try simp [hsu, hPt, encs]) <;> (try omega)), ?_, ?_⟩
    ·omega
    ·omega
   ·have hPt : rdP cn cells s[k] = [⟨(rdC cn cells s[k]).front, if (rdC cn cells s[k]).fturn = s[k].round then 0 else 1⟩, ⟨(rdC cn cells s[k]).back, if (rdC cn cells s[k]).bturn = s[k].round then 0 else 1⟩] := by unfold rdP; rw [if_neg ho]; rfl
    simp only [↓sx0, sxE, encs, sevalprocAttr]
    repeat ((with_reducible refine Vc.go ?_ fun _ => ?_); (focus (first | omega | (simp only [InK]; omega) | (simp [hkl, InK]; done) | (simp [hkl, InK]; omega))); simp only [↓sx0, sxE, encs, sevalprocAttr])
    refine ⟨k + 1, StLe.auto (by simp only [sx2, encs, sxR, sevalprocAttr] <;> (try simp [hsu, hPt, encs]) <;> (try omega)), ?_, ?_⟩
    ·omega
    ·omega
 ·simp only [↓sx0, sxE, encs, sevalprocAttr]
  have : k = s.length := by omega
  subst this
  rw [rdK_end]
  refine EndW.fn ?_ ?_ <;> simp only [sx4, encs, kpLL_map, sxR, sevalprocAttr] <;> (try simp) <;> (try omega)
end Go.Proofs.YtgiegokdcmkfeaaGreatDoor
