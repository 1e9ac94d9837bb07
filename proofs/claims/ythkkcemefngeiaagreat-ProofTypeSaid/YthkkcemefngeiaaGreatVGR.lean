/-
 Chapter 8: what stands more often (the reference).
-/
import Derived.Test.YthkkcemefngeiaaGreatVB8
import Derived.Test.YthkkcemefngeiaaGreatVSrt
import Derived.Test.YthkkcemefngeiaaGreatVGE
namespace Go.Proofs.YthkkcemefngeiaaGreat
open Go Go.Vx
set_option linter.unusedSimpArgs false
set_option linter.unusedVariables false
set_option maxRecDepth 20000
def insS (l : List Int) (x : Int) : List Int := l.takeWhile (fun y => decide (y ≤ x)) ++ x :: l.dropWhile (fun y => decide (y ≤ x))
theorem cnt_succ {l : List Int} {k : Nat} (h : k < l.length) (x : Int) : (l.take (k + 1)).count x = (l.take k).count x + if l[k] = x then 1 else 0 := by
 rw [List.take_succ_eq_append_getElem h, List.count_append, List.count_singleton]
 simp [beq_iff_eq]
theorem count_R (b : Bool) (l : List Int) (x : Int) (hl : l.length ≤ 1000000000) : Ctr Tryz.prog 42 [.sl b 1 (l.map eI), (.v (.int .i64 x))] (fun rr => rr = ⟨(.v (.int .i64 ((l.count x : Int)))), []⟩) := by
 have encs := And.intro encs (show ∀ n, eI n = [(.v (.int .i64 n))] from fun _ => rfl)
 refine Ctr.of (rs := [.tmp 4]) Tok true Tryz.func42 rfl rfl rfl rfl (by simp [ofDL]) (fun w0 kp => ?_)
 simp only [↓sx0, sxE, encs, sevalprocAttr]
 refine LoopW.comp [0, 1, 5, 6] (by simp only [sx2, encs, sxR, sevalprocAttr] <;> (try simp) <;> (try omega)) ?_
 simp only [sx2, sxR, sevalprocAttr]
 refine LoopW.up Tok (fun k : Nat => [(5, (.v (.int .i64 (((l.take k).count x : Int))))), (6, (.v (.int .i64 ((k : Int)))))]) (fun k => []) (fun k => []) (fun k => []) (fun k => k ≤ l.length) (fun k => l.length - k) (0) (by simp only [sx2, encs, sxR, sevalprocAttr] <;> (try simp) <;> (try omega)) ?_ ?_
 ·omega
 rintro k hk
 have hcl : (l.take k).count x ≤ k := Nat.le_trans List.count_le_length (by rw [List.length_take]; omega)
 simp only [↓sx0, sxE, encs, sevalprocAttr]
 refine BrW.dec (fun hlt => ?_) (fun hlt => ?_)
 ·have hlt : k < l.length := by omega
  have hs := cnt_succ hlt x
  simp only [↓sx0, sxE, encs, sevalprocAttr]
  refine IxW.nat hlt ?_
  simp only [↓sx0, sxE, encs, sevalprocAttr]
  refine BrW.dec (fun he => ?_) (fun he => ?_)
  ·rw [if_pos he] at hs
   simp only [↓sx0, sxE, encs, sevalprocAttr]
   repeat ((with_reducible refine Vc.go ?_ fun _ => ?_); (focus (first | omega | (simp only [InK]; omega) | (simp [InK]; done) | (simp [InK]; omega))); simp only [↓sx0, sxE, encs, sevalprocAttr])
   refine ⟨k + 1, StLe.auto (by simp only [sx2, encs, sxR, sevalprocAttr] <;> (try simp [hs, encs]) <;> (try omega)), ?_, ?_⟩
   all_goals omega
  ·rw [if_neg he] at hs
   simp only [↓sx0, sxE, encs, sevalprocAttr]
   repeat ((with_reducible refine Vc.go ?_ fun _ => ?_); (focus (first | omega | (simp only [InK]; omega) | (simp [InK]; done) | (simp [InK]; omega))); simp only [↓sx0, sxE, encs, sevalprocAttr])
   refine ⟨k + 1, StLe.auto (by simp only [sx2, encs, sxR, sevalprocAttr] <;> (try simp [hs, encs]) <;> (try omega)), ?_, ?_⟩
   all_goals omega
 ·have hke : k = l.length := by omega
  subst hke
  simp only [↓sx0, sxE, encs, sevalprocAttr]
  rw [List.take_length]
  refine EndW.fn ?_ ?_ <;> simp only [sx4, encs, kpLL_map, sxR, sevalprocAttr] <;> (try simp) <;> (try omega)
def moreR (a b : List Int) : Nat → List Int
 | 0 => []
 | k + 1 => if b.count (a[k]?.getD 0) ≤ (a.take k).count (a[k]?.getD 0) then insS (moreR a b k) (a[k]?.getD 0) else moreR a b k
theorem insS_len (l : List Int) (x : Int) : (insS l x).length = l.length + 1 := by
 have h : l.length = (l.takeWhile (fun y => decide (y ≤ x))).length + (l.dropWhile (fun y => decide (y ≤ x))).length := by
  conv => lhs; rw [← List.takeWhile_append_dropWhile (p := fun y => decide (y ≤ x)) (l := l)]
  rw [List.length_append]
 rw [insS, List.length_append, List.length_cons]; omega
theorem moreR_len (a b : List Int) : ∀ k, (moreR a b k).length ≤ k
 | 0 => by simp [moreR]
 | k + 1 => by
  have ih := moreR_len a b k
  rw [moreR]
  split
  ·rw [insS_len]; omega
  ·omega
theorem insS_at {l : List Int} {x : Int} {i : Nat} (hi : i ≤ l.length) (hall : (l.take i).all (fun y => decide (y ≤ x)) = true) (hn : ∀ h : i < l.length, ¬ l[i] ≤ x) : insS l x = l.take i ++ x :: l.drop i := by
 have h1 : l.takeWhile (fun y => decide (y ≤ x)) = l.take i ∧ l.dropWhile (fun y => decide (y ≤ x)) = l.drop i := by
  induction l generalizing i with
  | nil => simp at hi; subst hi; simp
  | cons y l ih =>
   cases i with
   | zero =>
    have := hn (by simp)
    simp only [List.getElem_cons_zero] at this
    simp [List.takeWhile_cons, List.dropWhile_cons, this]
   | succ i =>
    simp only [List.take_succ_cons, List.all_cons, Bool.and_eq_true] at hall
    have hh := ih (i := i) (by simpa using hi) hall.2 (fun h => by have := hn (by simpa using h); simpa using this)
    simp only [List.takeWhile_cons, List.dropWhile_cons, hall.1, if_true, List.take_succ_cons, List.drop_succ_cons, hh.1, hh.2, and_self]
 rw [insS, h1.1, h1.2]
set_option maxHeartbeats 4000000 in
theorem more_R (b1 b2 : Bool) (a b : List Int) (hal : a.length ≤ 1000) (hbl : b.length ≤ 1000) : Ctr Tryz.prog 31 [.sl b1 1 (a.map eI), .sl b2 1 (b.map eI)] (fun rr => rr = ⟨.sl true 1 ((moreR a b a.length).map eI), []⟩) := by
 have encs := And.intro encs (show ∀ n, eI n = [(.v (.int .i64 n))] from fun _ => rfl)
 refine Ctr.of (rs := [.tmp 4]) Tok true Tryz.func31 rfl rfl rfl rfl (by simp [ofDL]) (fun w0 kp => ?_)
 simp only [↓sx0, sxE, encs, sevalprocAttr]
 refine LoopW.comp [0, 1, 5, 6] (by simp only [sx2, encs, sxR, sevalprocAttr] <;> (try simp) <;> (try omega)) ?_
 simp only [sx2, sxR, sevalprocAttr]
 refine LoopW.up Tok (fun k : Nat => [(5, .row 0), (6, (.v (.int .i64 ((k : Int)))))]) (fun k => []) (fun k => []) (fun k => [.own 3 1 ((moreR a b k).map eI)]) (fun k => k ≤ a.length) (fun k => a.length - k) (0) (by simp only [sx2, encs, sxR, sevalprocAttr] <;> (try simp [moreR, encs]) <;> (try omega)) ?_ ?_
 ·omega
 rintro k hk
 simp only [↓sx0, sxE, encs, sevalprocAttr]
 refine BrW.dec (fun hlt => ?_) (fun hlt => ?_)
 ·have hlt : k < a.length := by omega
  simp only [↓sx0, sxE, encs, sevalprocAttr]
  refine DrawW.plan Tok mixed (.q 0 <| .q 1 <| .q 2 <| .q 3 <| .q 4 <| .q 5 <| .q 6 <| .q 8 <| .q 9 <| .q 10 <| .q 11 <| .q 12 <| .e 7 [12] <| .e 13 [] <| .q 14 <| .done) (by kernel_rfl) (by kernel_rfl) ?_
  simp only [↓sx0, sxE, encs, sevalprocAttr]
  repeat ((with_reducible refine Vc.go ?_ fun _ => ?_); (focus (first | omega | (simp only [InK]; omega) | (simp [InK]; done) | (simp [InK]; omega))); simp only [↓sx0, sxE, encs, sevalprocAttr])
  refine IxW.nat hlt ?_
  simp only [↓sx0, sxE, encs, sevalprocAttr]
  refine IxW.nat hlt ?_
  simp only [↓sx0, sxE, encs, sevalprocAttr]
  refine CallI.fn (count_R b1 (a.take k) a[k] (by rw [List.length_take]; omega)) (by simp only [sx3, encs, sxR, sevalprocAttr] <;> (try simp) <;> (try rfl)) ?_
  simp only [↓sx0, sxE, encs, sevalprocAttr]
  refine CallI.fn (count_R b2 b a[k] (by omega)) (by simp only [sx3, encs, sxR, sevalprocAttr] <;> (try simp) <;> (try rfl)) ?_
  simp only [↓sx0, sxE, encs, sevalprocAttr]
  refine BrW.dec (fun hge => ?_) (fun hge => ?_)
  ·simp only [↓sx0, sxE, encs, sevalprocAttr]
   have hml : (moreR a b k).length ≤ k := moreR_len a b k
   refine LoopW.comp [0, 1, 5, 6, 7] (by simp only [sx2, encs, sxR, sevalprocAttr] <;> (try simp) <;> (try omega)) ?_
   simp only [sx2, sxR, sevalprocAttr]
   refine LoopW.up Tok (fun i : Nat => [(7, (.v (.int .i64 ((i : Int)))))]) (fun i => []) (fun i => []) (fun i => []) (fun i => i ≤ (moreR a b k).length ∧ ((moreR a b k).take i).all (fun y => decide (y ≤ a[k])) = true) (fun i => (moreR a b k).length - i) (0) (by simp only [sx2, encs, sxR, sevalprocAttr] <;> (try simp) <;> (try omega)) ?_ ?_
   ·exact ⟨Nat.zero_le _, by simp⟩
   rintro i ⟨hi, hall⟩
   simp only [↓sx0, sxE, encs, sevalprocAttr]
   refine DrawW.plan Tok mixed (.q 0 <| .q 1 <| .q 2 <| .q 3 <| .q 4 <| .q 5 <| .q 6 <| .q 7 <| .q 8 <| .q 9 <| .q 10 <| .q 11 <| .q 12 <| .q 13 <| .q 14 <| .done) (by kernel_rfl) (by kernel_rfl) ?_
   simp only [↓sx0, sxE, encs, sevalprocAttr]
   refine BrW.dec (fun hil => ?_) (fun hil => ?_)
   ·simp only [↓sx0, sxE, encs, sevalprocAttr]
    have hil : i < (moreR a b k).length := by omega
    repeat ((with_reducible refine Vc.go ?_ fun _ => ?_); (focus (first | omega | (simp only [InK]; omega) | (simp [InK]; done) | (simp [InK]; omega))); simp only [↓sx0, sxE, encs, sevalprocAttr])
    refine IxW.nat hil ?_
    simp only [↓sx0, sxE, encs, sevalprocAttr]
    refine IxW.nat hlt ?_
    simp only [↓sx0, sxE, encs, sevalprocAttr]
    refine BrW.dec (fun hle => ?_) (fun hle => ?_)
    ·simp only [↓sx0, sxE, encs, sevalprocAttr]
     repeat ((with_reducible refine Vc.go ?_ fun _ => ?_); (focus (first | omega | (simp only [InK]; omega) | (simp [InK]; done) | (simp [InK]; omega))); simp only [↓sx0, sxE, encs, sevalprocAttr])
     refine ⟨i + 1, StLe.auto (by simp only [sx2, encs, sxR, sevalprocAttr] <;> (try simp) <;> (try omega)), ?_, ?_⟩
     ·refine ⟨hil, ?_⟩
      rw [List.take_succ_eq_append_getElem hil, List.all_append, hall]; simp [hle]
     ·omega
    ·have hins : insS (moreR a b k) a[k] = (moreR a b k).take i ++ a[k] :: (moreR a b k).drop i := insS_at (Nat.le_of_lt hil) hall (fun _ => by simpa using hle)
     simp only [↓sx0, sxE, encs, sevalprocAttr]
     refine DrawW.plan Tok mixed (.q 0 <| .q 1 <| .q 2 <| .q 4 <| .q 5 <| .q 6 <| .q 7 <| .q 9 <| .q 10 <| .e3 3 [7] (.e2 8 [] (.e 11 [7] <| .e 12 [] <| .e 13 [] <| .q 14 <| .done) 11 [7] (.e 8 [] <| .e 12 [] <| .e 13 [] <| .q 14 <| .done)) 8 [] (.e2 3 [7] (.e 11 [7] <| .e 12 [] <| .e 13 [] <| .q 14 <| .done) 11 [7] (.e2 3 [7] (.e 12 [] <| .e 13 [] <| .q 14 <| .done) 12 [] (.e 3 [7] <| .e 13 [] <| .q 14 <| .done))) 11 [7] (.e2 3 [7] (.e 8 [] <| .e 12 [] <| .e 13 [] <| .q 14 <| .done) 8 [] (.e2 3 [7] (.e 12 [] <| .e 13 [] <| .q 14 <| .done) 12 [] (.e 3 [7] <| .e 13 [] <| .q 14 <| .done)))) (by kernel_rfl) (by kernel_rfl) ?_
     simp only [↓sx0, sxE, encs, sevalprocAttr]
     refine IxW.nat hlt ?_
     simp only [↓sx0, sxE, encs, sevalprocAttr]
     have hsc : moreR a b (k + 1) = (moreR a b k).take i ++ a[k] :: (moreR a b k).drop i := by
      rw [moreR, List.getElem?_eq_getElem hlt, Option.getD_some, if_pos (by omega), hins]
     have hll : ((moreR a b k).map eI).length = (moreR a b k).length := List.length_map _
     repeat' (with_reducible refine And.intro ?_ ?_)
     all_goals (
      skip
      repeat ((with_reducible refine Vc.go ?_ fun _ => ?_); (focus (first | omega | (simp only [InK]; omega) | (simp [List.length_drop, List.length_take, List.length_map, InK]; done) | (simp [List.length_drop, List.length_take, List.length_map, InK]; omega))); simp only [↓sx0, sxE, encs, sevalprocAttr]))
     repeat' (with_reducible refine And.intro ?_ ?_)
     all_goals (
      skip
      repeat ((with_reducible refine Vc.go ?_ fun _ => ?_); (focus (first | omega | (simp only [InK]; omega) | (simp [List.length_drop, List.length_take, List.length_map, InK]; done) | (simp [List.length_drop, List.length_take, List.length_map, InK]; omega))); simp only [↓sx0, sxE, encs, sevalprocAttr]))
     repeat' (with_reducible refine And.intro ?_ ?_)
     all_goals (
      skip
      repeat ((with_reducible refine Vc.go ?_ fun _ => ?_); (focus (first | omega | (simp only [InK]; omega) | (simp [List.length_drop, List.length_take, List.length_map, InK]; done) | (simp [List.length_drop, List.length_take, List.length_map, InK]; omega))); simp only [↓sx0, sxE, encs, sevalprocAttr])
      refine ⟨k + 1, StLe.auto (by simp only [sx2, encs, sxR, sevalprocAttr] <;> (try simp [hsc, encs]) <;> (try omega)), ?_, ?_⟩
      all_goals omega)
   ·have hins : insS (moreR a b k) a[k] = (moreR a b k).take i ++ a[k] :: (moreR a b k).drop i := insS_at hi hall (fun h => by omega)
    simp only [↓sx0, sxE, encs, sevalprocAttr]
    refine DrawW.plan Tok mixed (.q 0 <| .q 1 <| .q 2 <| .q 4 <| .q 5 <| .q 6 <| .q 7 <| .q 9 <| .q 10 <| .e3 3 [7] (.e2 8 [] (.e 11 [7] <| .e 12 [] <| .e 13 [] <| .q 14 <| .done) 11 [7] (.e 8 [] <| .e 12 [] <| .e 13 [] <| .q 14 <| .done)) 8 [] (.e2 3 [7] (.e 11 [7] <| .e 12 [] <| .e 13 [] <| .q 14 <| .done) 11 [7] (.e2 3 [7] (.e 12 [] <| .e 13 [] <| .q 14 <| .done) 12 [] (.e 3 [7] <| .e 13 [] <| .q 14 <| .done))) 11 [7] (.e2 3 [7] (.e 8 [] <| .e 12 [] <| .e 13 [] <| .q 14 <| .done) 8 [] (.e2 3 [7] (.e 12 [] <| .e 13 [] <| .q 14 <| .done) 12 [] (.e 3 [7] <| .e 13 [] <| .q 14 <| .done)))) (by kernel_rfl) (by kernel_rfl) ?_
    simp only [↓sx0, sxE, encs, sevalprocAttr]
    refine IxW.nat hlt ?_
    simp only [↓sx0, sxE, encs, sevalprocAttr]
    have hsc : moreR a b (k + 1) = (moreR a b k).take i ++ a[k] :: (moreR a b k).drop i := by
     rw [moreR, List.getElem?_eq_getElem hlt, Option.getD_some, if_pos (by omega), hins]
    have hll : ((moreR a b k).map eI).length = (moreR a b k).length := List.length_map _
    repeat' (with_reducible refine And.intro ?_ ?_)
    all_goals (
     skip
     repeat ((with_reducible refine Vc.go ?_ fun _ => ?_); (focus (first | omega | (simp only [InK]; omega) | (simp [List.length_drop, List.length_take, List.length_map, InK]; done) | (simp [List.length_drop, List.length_take, List.length_map, InK]; omega))); simp only [↓sx0, sxE, encs, sevalprocAttr]))
    repeat' (with_reducible refine And.intro ?_ ?_)
    all_goals (
     skip
     repeat ((with_reducible refine Vc.go ?_ fun _ => ?_); (focus (first | omega | (simp only [InK]; omega) | (simp [List.length_drop, List.length_take, List.length_map, InK]; done) | (simp [List.length_drop, List.length_take, List.length_map, InK]; omega))); simp only [↓sx0, sxE, encs, sevalprocAttr]))
    repeat' (with_reducible refine And.intro ?_ ?_)
    all_goals (
     skip
     repeat ((with_reducible refine Vc.go ?_ fun _ => ?_); (focus (first | omega | (simp only [InK]; omega) | (simp [List.length_drop, List.length_take, List.length_map, InK]; done) | (simp [List.length_drop, List.length_take, List.length_map, InK]; omega))); simp only [↓sx0, sxE, encs, sevalprocAttr])
     refine ⟨k + 1, StLe.auto (by simp only [sx2, encs, sxR, sevalprocAttr] <;> (try simp [hsc, encs]) <;> (try omega)), ?_, ?_⟩
     all_goals omega)
  ·simp only [↓sx0, sxE, encs, sevalprocAttr]
   have hm : moreR a b (k + 1) = moreR a b k := by
    rw [moreR, List.getElem?_eq_getElem hlt, Option.getD_some, if_neg (by omega)]
   repeat ((with_reducible refine Vc.go ?_ fun _ => ?_); (focus (first | omega | (simp only [InK]; omega) | (simp [InK]; done) | (simp [InK]; omega))); simp only [↓sx0, sxE, encs, sevalprocAttr])
   refine ⟨k + 1, StLe.auto (by simp only [sx2, encs, sxR, sevalprocAttr] <;> (try simp [hm, encs]) <;> (try omega)), ?_, ?_⟩
   all_goals omega
 ·have hke : k = a.length := by omega
  subst hke
  simp only [↓sx0, sxE, encs, sevalprocAttr]
  refine EndW.fn ?_ ?_ <;> simp only [sx4, encs, kpLL_map, sxR, sevalprocAttr] <;> (try simp) <;> (try omega)
end Go.Proofs.YthkkcemefngeiaaGreat
/-
 Chapter 8: what stands more often (the program).
-/
namespace Go.Proofs.YthkkcemefngeiaaGreat
open Go Go.Vx
set_option linter.unusedSimpArgs false
set_option linter.unusedVariables false
set_option maxRecDepth 20000
def vlC (l : List Int) : List SV := [.pt true [.sl true 1 (l.map eI)]]
def vlY (x : Int) : List SV := [(.v (.int .i64 x))]
theorem values_s (l : List Int) : Ctr Tryz.prog 39 [.sl true 1 (l.map eI)] (fun rr => rr = ⟨.clo 59 (vlC l), []⟩) := by
 have encs := And.intro encs (show ∀ l, vlC l = [.pt true [.sl true 1 (l.map eI)]] from fun _ => rfl)
 refine Ctr.ofB (rs := [.tmp 2]) Tok Tryz.func39 rfl rfl rfl rfl (by simp [ofDL]) (fun w0 kp => ?_)
 simp only [↓sx0, sxE, encs, sevalprocAttr]
 simp only [endY, boxV, boxL, bxPs, bxPs.bx1, bxD, assB, ptB, bxV, bxL, toDL, toD, consO, vD, oneV, dedN, addN, memN, sxL, sx2, encs, sxR, sevalprocAttr]
 exact EndW.fn (by simp only [sx4, encs, kpLL_map, sxR, sevalprocAttr] <;> (try simp) <;> (try omega)) (by simp only [sx4, encs, kpLL_map, sxR, sevalprocAttr] <;> (try simp) <;> (try omega))
theorem vlIt_s (l : List Int) (hl : l.length ≤ 1000000) : ItCtr Tryz.prog 59 (vlC l) (l.map vlY) := by
 have encs := And.intro encs (show ∀ l, vlC l = [.pt true [.sl true 1 (l.map eI)]] from fun _ => rfl)
 refine ItCtr.of Tok Tryz.func59 rfl rfl rfl rfl (by simp [ofDL, encs]) (fun w0 kp yd hok => ?_)
 simp only [↓sx0, sxE, encs, sevalprocAttr]
 refine LoopW.comp [0, 5, 6, 7] (by simp only [sx2, encs, sxR, sevalprocAttr] <;> (try simp) <;> (try omega)) ?_
 simp only [sx2, sxR, sevalprocAttr]
 refine LoopW.upG Tok (fun k : Nat => [(7, (.v (.int .i64 ((k : Int)))))]) (fun k => []) (fun k => []) (fun k => []) (fun k => (l.take k).map vlY) (fun k => k ≤ l.length) (fun k => l.length - k) (0) (by simp only [sx2, encs, sxR, sevalprocAttr] <;> (try simp) <;> (try omega)) ?_ ?_
 ·omega
 rintro k hk
 simp only [↓sx0, sxE, encs, sevalprocAttr]
 refine BrW.dec (fun hlt => ?_) (fun hlt => ?_)
 ·have hkl : k < l.length := by omega
  simp only [↓sx0, sxE, encs, sevalprocAttr]
  refine IxW.nat hkl ?_
  have hs : (l.take (k + 1)).map vlY = (l.take k).map vlY ++ [[(.v (.int .i64 (l[k])))]] := by rw [List.take_succ_eq_append_getElem hkl, List.map_append]; rfl
  have hm : (l.take k).map vlY ++ [[(.v (.int .i64 (l[k])))]] <+: l.map vlY := by
   rw [← hs]; exact (List.take_prefix _ _).map _
  simp only [↓sx0, sxE, encs, sevalprocAttr]
  refine YldI.of (ys := (l.take k).map vlY) hok rfl rfl (by simp only [sx2, sxA, encs, sxR, sevalprocAttr] <;> rfl) (by simp only [sx2, sxA, encs, sxR, sevalprocAttr] <;> rfl) rfl rfl rfl (hm) ?_ ?_
  ·simp only [↓sx0, sxE, encs, sevalprocAttr]
   repeat ((with_reducible refine Vc.go ?_ fun _ => ?_); (focus (first | omega | (simp only [InK]; omega) | (simp [InK]; done) | (simp [InK]; omega))); simp only [↓sx0, sxE, encs, sevalprocAttr])
   refine ⟨k + 1, StLe.auto (by simp only [sx2, encs, sxR, sevalprocAttr] <;> (try simp [hs, encs]) <;> (try omega)), ?_, ?_⟩
   ·omega
   ·omega
  ·simp only [↓sx0, sxE, encs, sevalprocAttr]
   intro h
   cases h
 ·simp only [↓sx0, sxE, encs, sevalprocAttr]
  have hke : k = l.length := by omega
  subst hke
  intro _
  simp
theorem appendSeq_s (a : List Int) (hl : a.length ≤ 1000000) : Ctr Tryz.prog 75 [.v (.slice none 0 0), .clo 59 [.pt true [.sl true 1 (a.map eI)]]] (fun rr => rr = ⟨.row 0, [.own 3 1 (a.map eI)]⟩) := by
 have encs := And.intro encs (show ∀ l, vlC l = [.pt true [.sl true 1 (l.map eI)]] from fun _ => rfl)
 refine Ctr.of (rs := [.tmp 4]) Tok false Tryz.func75 rfl rfl rfl rfl (by simp [ofDL]) (fun w0 kp => ?_)
 simp only [↓sx0, sxE, encs, sevalprocAttr]
 have hit := vlIt_s a hl
 refine RangeW.it Tok (fun _ => rfl) (fun hro => by first | rfl | exact (by rw [hro] at *; contradiction)) (hit) [(2, .box 0 0), (6, .clo 59 (vlC a))] (fun ys => [some ⟨23, [.row 0]⟩]) (fun ys => [.own 3 1 ((a.take ys.length).map eI)]) (fun _ => True) trivial (by simp only [sx2, encs, sxR, sevalprocAttr] <;> (try simp) <;> (try omega)) rfl rfl (by simp [vlY]) ?_ (fun hJall => ?_)
 ·rintro pre d hpre - ρ σ μ ho' hy hs
  obtain ⟨q, hq⟩ := hpre
  have hk : pre.length < a.length := by
   have := congrArg List.length hq
   simp at this; omega
  have hd : d = vlY a[pre.length] := by
   have : (a.map vlY)[pre.length]? = some d := by rw [← hq]; simp
   simpa [List.getElem?_eq_getElem hk, eq_comm] using this
  subst hd
  obtain ⟨yd', ro, mks, fr, lp, sz⟩ := ho'
  have hsu : a.take (pre.length + 1) = a.take pre.length ++ [a[pre.length]] := List.take_succ_eq_append_getElem hk
  have hlen : (pre ++ [vlY a[pre.length]]).length = pre.length + 1 := by simp
  have htl : (a.take pre.length).length = pre.length := by rw [List.length_take]; omega
  rw [hlen, hsu]
  have hb : vlY a[pre.length] = [(.v (.int .i64 (a[pre.length])))] := rfl
  rw [hb]
  simp only [↓sx0, sxE, encs, sevalprocAttr]
  intro fr'
  repeat ((with_reducible refine Vc.go ?_ fun _ => ?_); (focus (first | omega | (simp only [InK]; omega) | (simp [InK]; done) | (simp [InK]; omega))); simp only [↓sx0, sxE, encs, sevalprocAttr])
  simp only [sx2, encs, sxR, sevalprocAttr] <;> (try simp) <;> (try omega)
  rw [← List.map_take, ← List.map_take, hsu, List.map_append]
  rfl
 ·rw [List.length_map, List.take_length]
  simp only [↓sx0, sxE, encs, sevalprocAttr]
  exact EndW.r [some 0] (by simp) (by simp only [sx4, sxF, encs, kpLL_map, sxR, sevalprocAttr] <;> simp) (by simp only [sx4, sxF, encs, kpLL_map, sxR, sevalprocAttr] <;> simp) (by simp only [sx4, sxF, encs, kpLL_map, sxR, sevalprocAttr] <;> simp) (by simp only [sx4, sxF, encs, kpLL_map, sxR, sevalprocAttr] <;> simp)
theorem collect_s (a : List Int) (hl : a.length ≤ 1000000) : Ctr Tryz.prog 57 [.clo 59 [.pt true [.sl true 1 (a.map eI)]]] (fun rr => rr = ⟨.row 0, [.own 3 1 (a.map eI)]⟩) := by
 refine Ctr.of (rs := [.tmp 2]) Tok false Tryz.func57 rfl rfl rfl rfl (by simp [ofDL]) (fun w0 kp => ?_)
 simp only [↓sx0, sxE, encs, sevalprocAttr]
 refine CallI.ctr (appendSeq_s a hl) (by simp only [sx3, encs, sxR, sevalprocAttr] <;> (try simp) <;> (try rfl)) ?_
 rintro _ rfl
 simp only [↓sx0, sxE, encs, sevalprocAttr]
 exact EndW.r [some 0] (by simp) (by simp only [sx4, sxF, encs, kpLL_map, sxR, sevalprocAttr] <;> simp) (by simp only [sx4, sxF, encs, kpLL_map, sxR, sevalprocAttr] <;> simp) (by simp only [sx4, sxF, encs, kpLL_map, sxR, sevalprocAttr] <;> simp) (by simp only [sx4, sxF, encs, kpLL_map, sxR, sevalprocAttr] <;> simp)
/-! a map of numbers. -/
def mE (p : Int × Int) : List D := [(.v (.int .i64 p.1)), (.v (.int .i64 p.2))]
def mGet (k : Int) : List (Int × Int) → Int
 | [] => 0
 | (a, v) :: m => if k = a then v else mGet k m
def mUp (k v : Int) : List (Int × Int) → List (Int × Int)
 | [] => [(k, v)]
 | (a, u) :: m => if k = a then (k, v) :: m else (a, u) :: mUp k v m
theorem mGet_up (k v x : Int) : ∀ m, mGet x (mUp k v m) = if x = k then v else mGet x m
 | [] => by simp [mUp, mGet]
 | (a, u) :: m => by
  rw [mUp]
  by_cases h : k = a
  ·subst h
   rw [if_pos rfl, mGet, mGet]
   by_cases h2 : x = k
   ·rw [if_pos h2, if_pos h2]
   ·rw [if_neg h2, if_neg h2, if_neg h2]
  ·rw [if_neg h, mGet, mGet, mGet_up k v x m]
   by_cases h2 : x = a
   ·subst h2; rw [if_pos rfl, if_neg fun e => h e.symm, if_pos rfl]
   ·simp [h2]
theorem lkE_m (k : Int) : ∀ m : List (Int × Int), lkV false (.int .i64 0) (lkE (.int .i64 k) (m.map mE)) = (.v (.int .i64 (mGet k m)))
 | [] => rfl
 | (a, v) :: m => by
  have ih := lkE_m k m
  simp only [List.map_cons, mE, lkE, mGet]
  by_cases h : k = a
  ·subst h; simp [kEq, lkV]
  ·simp only [kEq, beq_self_eq_true, Bool.true_and, beq_iff_eq, h, if_false]; exact ih
theorem upE_m (k v : Int) : ∀ m : List (Int × Int), upE (.int .i64 k) (.int .i64 v) (m.map mE) = (mUp k v m).map mE
 | [] => rfl
 | (a, u) :: m => by
  have ih := upE_m k v m
  simp only [List.map_cons, mE, upE, mUp]
  by_cases h : k = a
  ·subst h; simp [kEq, mE]
  ·simp only [kEq, beq_self_eq_true, Bool.true_and, beq_iff_eq, h, if_false, List.map_cons, mE]; rw [ih]
theorem ents_m : ∀ m : List (Int × Int), entsOk (some .i64) (m.map mE) = true
 | [] => rfl
 | (a, u) :: m => by
  have ih := ents_m m
  simp only [entsOk, List.map_cons, List.all_cons, Bool.and_eq_true] at ih ⊢
  exact ⟨rfl, ih⟩
def cntM (l : List Int) : Nat → List (Int × Int)
 | 0 => []
 | k + 1 => mUp (l[k]?.getD 0) (mGet (l[k]?.getD 0) (cntM l k) + 1) (cntM l k)
def lessM (m0 : List (Int × Int)) (l : List Int) : Nat → List (Int × Int)
 | 0 => m0
 | k + 1 => mUp (l[k]?.getD 0) (mGet (l[k]?.getD 0) (lessM m0 l k) - 1) (lessM m0 l k)
theorem cntM_get (l : List Int) (x : Int) : ∀ k, k ≤ l.length → mGet x (cntM l k) = ((l.take k).count x : Int)
 | 0, _ => by simp [cntM, mGet]
 | k + 1, h => by
  have ih := cntM_get l x k (by omega)
  have hs := cnt_succ (l := l) (k := k) (by omega) x
  rw [cntM, mGet_up, List.getElem?_eq_getElem (show k < l.length by omega), Option.getD_some, hs]
  split
  ·rename_i e; rw [if_pos e.symm, ← e, ih]; omega
  ·rename_i e; rw [ih, if_neg fun q => e q.symm]; omega
theorem lessM_get (m0 : List (Int × Int)) (l : List Int) (x : Int) : ∀ k, k ≤ l.length → mGet x (lessM m0 l k) = mGet x m0 - ((l.take k).count x : Int)
 | 0, _ => by simp [lessM]
 | k + 1, h => by
  have ih := lessM_get m0 l x k (by omega)
  have hs := cnt_succ (l := l) (k := k) (by omega) x
  rw [lessM, mGet_up, List.getElem?_eq_getElem (show k < l.length by omega), Option.getD_some, hs]
  split
  ·rename_i e; rw [if_pos e.symm, ← e, ih]; omega
  ·rename_i e; rw [ih, if_neg fun q => e q.symm]; omega
theorem cntM_lt (l : List Int) (x : Int) {k : Nat} (h : k ≤ l.length) : 0 ≤ mGet x (cntM l k) ∧ mGet x (cntM l k) ≤ k := by
 rw [cntM_get l x k h]
 have : ((l.take k).count x) ≤ k := Nat.le_trans List.count_le_length (by rw [List.length_take]; omega)
 omega
theorem lessM_lt (b l : List Int) (x : Int) {k : Nat} (h : k ≤ l.length) : -(k : Int) ≤ mGet x (lessM (cntM b b.length) l k) ∧ mGet x (lessM (cntM b b.length) l k) ≤ b.length := by
 rw [lessM_get _ l x k h]
 have h1 := cntM_lt b x (Nat.le_refl b.length)
 have : ((l.take k).count x) ≤ k := Nat.le_trans List.count_le_length (by rw [List.length_take]; omega)
 omega
/-- what stands more often in s, which is sorted, than in b. -/
def moreP (b s : List Int) : Nat → List Int
 | 0 => []
 | k + 1 => moreP b s k ++ if b.count (s[k]?.getD 0) ≤ (s.take k).count (s[k]?.getD 0) then [s[k]?.getD 0] else []
theorem moreP_len (b s : List Int) : ∀ k, (moreP b s k).length ≤ k
 | 0 => by simp [moreP]
 | k + 1 => by
  have ih := moreP_len b s k
  rw [moreP]
  split <;> simp <;> omega
set_option maxHeartbeats 4000000 in
theorem more_s (a b : List Int) (hal : a.length ≤ 1000) (hbl : b.length ≤ 1000) : Ctr Tryz.prog 24 [.sl true 1 (a.map eI), .sl true 1 (b.map eI)] (fun rr => rr = ⟨.sl true 1 ((moreP b (sortI a) a.length).map eI), []⟩) := by
 have encs := And.intro encs (And.intro lkE_m (And.intro upE_m (And.intro ents_m (show ∀ l, vlC l = [.pt true [.sl true 1 (l.map eI)]] from fun _ => rfl))))
 refine Ctr.of (rs := [.tmp 4]) Tok true Tryz.func24 rfl rfl rfl rfl (by simp [ofDL]) (fun w0 kp => ?_)
 simp only [↓sx0, sxE, encs, sevalprocAttr]
 refine LoopW.comp [0, 5, 12, 13, 14] (by simp only [sx2, encs, sxR, sevalprocAttr] <;> (try simp) <;> (try omega)) ?_
 simp only [sx2, sxR, sevalprocAttr]
 refine LoopW.up Tok (fun k : Nat => [(14, (.v (.int .i64 ((k : Int)))))]) (fun k => []) (fun k => [(0, (cntM b k).map mE)]) (fun k => []) (fun k => k ≤ b.length) (fun k => b.length - k) (0) (by simp only [sx2, encs, sxR, sevalprocAttr] <;> (try simp [cntM, encs]) <;> (try omega)) ?_ ?_
 ·omega
 rintro k hk
 simp only [↓sx0, sxE, encs, sevalprocAttr]
 refine BrW.dec (fun hlt => ?_) (fun hlt => ?_)
 ·have hlt : k < b.length := by omega
  have hc := cntM_lt b b[k] (Nat.le_of_lt hlt)
  have hs : cntM b (k + 1) = mUp b[k] (mGet b[k] (cntM b k) + 1) (cntM b k) := by rw [cntM, List.getElem?_eq_getElem hlt, Option.getD_some]
  simp only [↓sx0, sxE, encs, sevalprocAttr]
  refine IxW.nat hlt ?_
  simp only [↓sx0, sxE, encs, sevalprocAttr]
  repeat ((with_reducible refine Vc.go ?_ fun _ => ?_); (focus (first | omega | (simp only [InK]; omega) | (simp [InK]; done) | (simp [InK]; omega))); simp only [↓sx0, sxE, encs, sevalprocAttr])
  refine ⟨k + 1, StLe.auto (by simp only [sx2, encs, sxR, sevalprocAttr] <;> (try simp [hs, encs]) <;> (try omega)), ?_, ?_⟩
  all_goals omega
 ·have hke : k = b.length := by omega
  subst hke
  simp only [↓sx0, sxE, encs, sevalprocAttr]
  refine CallI.fn (values_s a) (by simp only [sx3, encs, sxR, sevalprocAttr] <;> (try simp) <;> (try rfl)) ?_
  simp only [↓sx0, sxE, encs, sevalprocAttr]
  refine CallI.inl (rs := [.tmp 2]) Tok Tryz.func38 rfl rfl rfl rfl (by simp) (fun ρ σ μ fr lp => ?_)
  simp only [↓sx0, sxE, encs, sevalprocAttr]
  refine CallI.ctr (collect_s a (by omega)) (by simp only [sx3, encs, sxR, sevalprocAttr] <;> (try simp) <;> (try rfl)) ?_
  rintro _ rfl
  simp only [↓sx0, sxE, encs, sevalprocAttr]
  refine CallI.turn1 (r := 1) (e := 3) (s := 1) rfl (sort_s a (by omega)) ?_
  simp only [↓sx0, sxE, encs, sevalprocAttr]
  have hsl : (sortI a).length = a.length := List.length_mergeSort _
  generalize hg : sortI a = s at hsl ⊢
  skip
  refine LoopW.comp [5, 8, 25, 26, 27] (by simp only [sx2, encs, sxR, sevalprocAttr] <;> (try simp) <;> (try omega)) ?_
  simp only [sx2, sxR, sevalprocAttr]
  refine LoopW.up Tok (fun k : Nat => [(8, .row 2), (27, (.v (.int .i64 ((k : Int)))))]) (fun k => []) (fun k => [(0, (lessM (cntM b b.length) s k).map mE)]) (fun k => [.own 3 1 ((moreP b s k).map eI)]) (fun k => k ≤ s.length) (fun k => s.length - k) (0) (by simp only [sx2, encs, sxR, sevalprocAttr] <;> (try simp [lessM, moreP, encs]) <;> (try omega)) ?_ ?_
  ·omega
  rintro k hk
  simp only [↓sx0, sxE, encs, sevalprocAttr]
  refine BrW.dec (fun hlt => ?_) (fun hlt => ?_)
  ·have hlt : k < s.length := by omega
   have hc := lessM_lt b s s[k] (Nat.le_of_lt hlt)
   have hs : lessM (cntM b b.length) s (k + 1) = mUp s[k] (mGet s[k] (lessM (cntM b b.length) s k) - 1) (lessM (cntM b b.length) s k) := by rw [lessM, List.getElem?_eq_getElem hlt, Option.getD_some]
   have hge := mGet_up s[k] (mGet s[k] (lessM (cntM b b.length) s k) - 1) s[k] (lessM (cntM b b.length) s k)
   rw [if_pos rfl] at hge
   have hle := lessM_get (cntM b b.length) s s[k] k (Nat.le_of_lt hlt)
   rw [cntM_get b s[k] _ (Nat.le_refl _), List.take_length] at hle
   have encs := And.intro encs hge
   simp only [↓sx0, sxE, encs, sevalprocAttr]
   repeat ((with_reducible refine Vc.go ?_ fun _ => ?_); (focus (first | omega | (simp only [InK]; omega) | (simp [InK]; done) | (simp [InK]; omega))); simp only [↓sx0, sxE, encs, sevalprocAttr])
   refine IxW.nat hlt ?_
   simp only [↓sx0, sxE, encs, sevalprocAttr]
   repeat ((with_reducible refine Vc.go ?_ fun _ => ?_); (focus (first | omega | (simp only [InK]; omega) | (simp [InK]; done) | (simp [InK]; omega))); simp only [↓sx0, sxE, encs, sevalprocAttr])
   have hmp : moreP b s (k + 1) = moreP b s k ++ if b.count s[k] ≤ (s.take k).count s[k] then [s[k]] else [] := by rw [moreP, List.getElem?_eq_getElem hlt, Option.getD_some]
   have hml := moreP_len b s k
   refine BrW.dec (fun hb => ?_) (fun hb => ?_)
   ·rw [if_pos (by omega)] at hmp
    simp only [↓sx0, sxE, encs, sevalprocAttr]
    repeat ((with_reducible refine Vc.go ?_ fun _ => ?_); (focus (first | omega | (simp only [InK]; omega) | (simp [InK]; done) | (simp [InK]; omega))); simp only [↓sx0, sxE, encs, sevalprocAttr])
    refine ⟨k + 1, StLe.auto (by simp only [sx2, encs, sxR, sevalprocAttr] <;> (try simp [hmp, hs, encs]) <;> (try omega)), ?_, ?_⟩
    all_goals omega
   ·rw [if_neg (by omega), List.append_nil] at hmp
    simp only [↓sx0, sxE, encs, sevalprocAttr]
    repeat ((with_reducible refine Vc.go ?_ fun _ => ?_); (focus (first | omega | (simp only [InK]; omega) | (simp [InK]; done) | (simp [InK]; omega))); simp only [↓sx0, sxE, encs, sevalprocAttr])
    refine ⟨k + 1, StLe.auto (by simp only [sx2, encs, sxR, sevalprocAttr] <;> (try simp [hmp, hs, encs]) <;> (try omega)), ?_, ?_⟩
    all_goals omega
  ·have hke : k = s.length := by omega
   subst hke
   simp only [↓sx0, sxE, encs, sevalprocAttr]
   rw [← hsl]
   refine EndW.fn ?_ ?_ <;> simp only [sx4, encs, kpLL_map, sxR, sevalprocAttr] <;> (try simp) <;> (try omega)
end Go.Proofs.YthkkcemefngeiaaGreat
/-
 Chapter 8: pairs that are kept (the reference).
-/
namespace Go.Proofs.YthkkcemefngeiaaGreat
open Go Go.Vx
set_option linter.unusedSimpArgs false
set_option linter.unusedVariables false
set_option maxRecDepth 20000
/-- the table in one row: from place p on, the rest is 0. -/
def flC (a b : List Int) (p : Nat) : List Int := (List.range ((a.length + 1) * (b.length + 1))).map fun r => if p ≤ r then tl a b (r / (b.length + 1)) (r % (b.length + 1)) else 0
def flV (a b : List Int) (p : Nat) (v : Int) : List Int := (List.range ((a.length + 1) * (b.length + 1))).map fun r => if r = p then v else if p ≤ r then tl a b (r / (b.length + 1)) (r % (b.length + 1)) else 0
theorem fl_at {a b : List Int} {i j : Nat} (hj : j < b.length + 1) : (i * (b.length + 1) + j) / (b.length + 1) = i ∧ (i * (b.length + 1) + j) % (b.length + 1) = j := by
 constructor
 ·rw [Nat.mul_comm, Nat.mul_add_div (by omega), Nat.div_eq_of_lt hj]; rfl
 ·rw [Nat.mul_comm, Nat.mul_add_mod, Nat.mod_eq_of_lt hj]
theorem fl_lt {a b : List Int} {i j : Nat} (hi : i ≤ a.length) (hj : j < b.length + 1) : i * (b.length + 1) + j < (a.length + 1) * (b.length + 1) := by
 have := Nat.mul_le_mul_right (b.length + 1) hi
 rw [Nat.succ_mul]; omega
theorem flC_put (a b : List Int) (p : Nat) (v : Int) : ((flC a b (p + 1)).map eI).modify p (modE · 0 [.v (.int .i64 v)]) = (flV a b p v).map eI := by
 apply List.ext_getElem
 ·simp [flC, flV]
 ·intro r h1 h2
  simp only [List.getElem_modify, flC, flV, List.getElem_map, List.getElem_range]
  by_cases e : p = r
  ·subst e; simp [modE, eI]
  ·rw [if_neg e]
   by_cases h3 : p + 1 ≤ r
   ·rw [if_pos h3, if_neg (fun h => e h.symm), if_pos (by omega)]
   ·rw [if_neg h3, if_neg (fun h => e h.symm), if_neg (by omega)]
theorem flV_put (a b : List Int) (p : Nat) (u v : Int) : ((flV a b p u).map eI).modify p (modE · 0 [.v (.int .i64 v)]) = (flV a b p v).map eI := by
 apply List.ext_getElem
 ·simp [flV]
 ·intro r h1 h2
  simp only [List.getElem_modify, flV, List.getElem_map, List.getElem_range]
  by_cases e : p = r
  ·subst e; simp [modE, eI]
  ·rw [if_neg e, if_neg (fun h : r = p => e h.symm), if_neg (fun h : r = p => e h.symm)]
theorem flV_tl (a b : List Int) (i j : Nat) (hj : j < b.length + 1) : flV a b (i * (b.length + 1) + j) (tl a b i j) = flC a b (i * (b.length + 1) + j) := by
 unfold flV flC
 apply List.map_congr_left
 intro r _
 by_cases e : r = i * (b.length + 1) + j
 ·obtain ⟨e1, e2⟩ := fl_at (a := a) (b := b) (i := i) hj
  rw [if_pos e, e, if_pos (Nat.le_refl _), e1, e2]
 ·rw [if_neg e]
theorem flC_row (a b : List Int) (i : Nat) : flC a b (i * (b.length + 1) + b.length) = flC a b ((i + 1) * (b.length + 1)) := by
 unfold flC
 apply List.map_congr_left
 intro r _
 rw [Nat.succ_mul]
 by_cases e : r = i * (b.length + 1) + b.length
 ·obtain ⟨e1, e2⟩ := fl_at (a := a) (b := b) (i := i) (j := b.length) (by omega)
  rw [e, if_pos (Nat.le_refl _), if_neg (by omega), e1, e2, tl_end2]
 ·by_cases h : i * (b.length + 1) + b.length ≤ r
  ·rw [if_pos h, if_pos (by omega)]
  ·rw [if_neg h, if_neg (by omega)]
theorem flC_zero (a b : List Int) : flC a b (a.length * (b.length + 1)) = List.replicate ((a.length + 1) * (b.length + 1)) 0 := by
 apply List.ext_getElem
 ·simp [flC]
 ·intro r h1 h2
  simp only [flC, List.getElem_map, List.getElem_range, List.getElem_replicate]
  split
  ·rename_i h
   have hr : r < (a.length + 1) * (b.length + 1) := by simpa [flC] using h1
   rw [Nat.succ_mul] at hr
   obtain ⟨j, rfl⟩ := Nat.exists_eq_add_of_le h
   obtain ⟨e1, e2⟩ := fl_at (a := a) (b := b) (i := a.length) (j := j) (by omega)
   rw [e1, e2, tl_end1]
  ·rfl
theorem flC_get {a b : List Int} {p i j : Nat} (hi : i ≤ a.length) (hj : j < b.length + 1) (hp : p ≤ i * (b.length + 1) + j) : ((flC a b p).map eI)[i * (b.length + 1) + j]? = some (eI (tl a b i j)) := by
 obtain ⟨e1, e2⟩ := fl_at (a := a) (b := b) (i := i) hj
 rw [List.getElem?_map]
 simp only [flC, List.getElem?_map, List.getElem?_range (fl_lt hi hj), Option.map_some, if_pos hp, e1, e2]
theorem flV_self {a b : List Int} {i j : Nat} {v : Int} (hi : i ≤ a.length) (hj : j < b.length + 1) : ((flV a b (i * (b.length + 1) + j) v).map eI)[i * (b.length + 1) + j]? = some (eI v) := by
 rw [List.getElem?_map]
 simp only [flV, List.getElem?_map, List.getElem?_range (fl_lt hi hj), Option.map_some, if_pos]
theorem flV_get {a b : List Int} {p i j : Nat} {v : Int} (hi : i ≤ a.length) (hj : j < b.length + 1) (hp : p < i * (b.length + 1) + j) : ((flV a b p v).map eI)[i * (b.length + 1) + j]? = some (eI (tl a b i j)) := by
 obtain ⟨e1, e2⟩ := fl_at (a := a) (b := b) (i := i) hj
 rw [List.getElem?_map]
 simp only [flV, List.getElem?_map, List.getElem?_range (fl_lt hi hj), Option.map_some, if_neg (show ¬ i * (b.length + 1) + j = p by omega), if_pos (show p ≤ i * (b.length + 1) + j by omega), e1, e2]
theorem flC_len (a b : List Int) (p : Nat) : (flC a b p).length = (a.length + 1) * (b.length + 1) := by simp [flC]
theorem flV_len (a b : List Int) (p : Nat) (v : Int) : (flV a b p v).length = (a.length + 1) * (b.length + 1) := by simp [flV]
/-- the first place in b from k on with which v is reached. -/
def frF (a b : List Int) (v : Int) (x : Nat) : Nat → Nat → Option Nat
 | 0, _ => none
 | n + 1, y => if (match a[x]?, b[y]? with
  | some p, some q => decide (p = q) && decide (1 + tl a b (x + 1) (y + 1) = v)
  | _, _ => false) = true then some y else frF a b v x n (y + 1)
def frX (a b : List Int) (v : Int) (k : Nat) : Nat → Nat → Nat × Nat
 | 0, _ => (a.length, b.length)
 | n + 1, x => match frF a b v x (b.length - k) k with
  | some y => (x, y)
  | none => frX a b v k n (x + 1)
def frst (a b : List Int) (i k : Nat) : Nat × Nat := frX a b (tl a b i k) k (a.length - i) i
set_option maxHeartbeats 8000000 in
theorem first_R (b1 b2 b3 : Bool) (a b : List Int) (i k : Nat) (ha : a.length ≤ 1000) (hb : b.length ≤ 1000) (hi : i ≤ a.length) (hk : k ≤ b.length) :
  Ctr Tryz.prog 32 [.sl b1 1 (a.map eI), .sl b2 1 (b.map eI), .sl b3 1 ((flC a b 0).map eI), (.v (.int .i64 ((i : Int)))), (.v (.int .i64 ((k : Int))))] (fun rr => rr = ⟨.tup [(.v (.int .i64 (((frst a b i k).1 : Int)))), (.v (.int .i64 (((frst a b i k).2 : Int))))], []⟩) := by
 refine Ctr.of (rs := [.tmp 10, .tmp 11]) Tok true Tryz.func32 rfl rfl rfl rfl (by simp [ofDL]) (fun w0 kp => ?_)
 simp only [↓sx0, sxE, encs, sevalprocAttr]
 repeat ((with_reducible refine Vc.go ?_ fun _ => ?_); (focus (first | omega | (simp only [InK]; omega) | (simp [InK]; done) | (simp [InK]; omega))); simp only [↓sx0, sxE, encs, sevalprocAttr])
 refine LoopW.comp [0, 1, 2, 3, 4, 12, 13] (by simp only [sx2, encs, sxR, sevalprocAttr] <;> (try simp) <;> (try omega)) ?_
 simp only [sx2, sxR, sevalprocAttr]
 refine LoopW.up Tok (fun x : Nat => [(13, (.v (.int .i64 ((x : Int)))))]) (fun x => []) (fun x => []) (fun x => []) (fun x => (i ≤ x ∧ x ≤ a.length) ∧ frX a b (tl a b i k) k (a.length - x) x = frst a b i k) (fun x => a.length - x) (i) (by simp only [sx2, encs, sxR, sevalprocAttr] <;> (try simp) <;> (try omega)) ?_ ?_
 ·exact ⟨⟨by omega, by omega⟩, rfl⟩
 rintro x ⟨⟨hix, hxa⟩, hX⟩
 simp only [↓sx0, sxE, encs, sevalprocAttr]
 refine BrW.dec (fun hlt => ?_) (fun hlt => ?_)
 ·have hxl : x < a.length := by omega
  have hXs : frX a b (tl a b i k) k (a.length - x) x = match frF a b (tl a b i k) x (b.length - k) k with
   | some y => (x, y)
   | none => frX a b (tl a b i k) k (a.length - (x + 1)) (x + 1) := by rw [show a.length - x = (a.length - (x + 1)) + 1 by omega, frX]
  simp only [↓sx0, sxE, encs, sevalprocAttr]
  refine LoopW.comp [0, 1, 2, 3, 4, 12, 13, 14] (by simp only [sx2, encs, sxR, sevalprocAttr] <;> (try simp) <;> (try omega)) ?_
  simp only [sx2, sxR, sevalprocAttr]
  refine LoopW.up Tok (fun y : Nat => [(14, (.v (.int .i64 ((y : Int)))))]) (fun y => []) (fun y => []) (fun y => []) (fun y => (k ≤ y ∧ y ≤ b.length) ∧ frF a b (tl a b i k) x (b.length - y) y = frF a b (tl a b i k) x (b.length - k) k) (fun y => b.length - y) (k) (by simp only [sx2, encs, sxR, sevalprocAttr] <;> (try simp) <;> (try omega)) ?_ ?_
  ·exact ⟨⟨by omega, by omega⟩, rfl⟩
  rintro y ⟨⟨hky, hyb⟩, hF⟩
  simp only [↓sx0, sxE, encs, sevalprocAttr]
  refine BrW.dec (fun hlt2 => ?_) (fun hlt2 => ?_)
  ·have hyl : y < b.length := by omega
   have hFs : frF a b (tl a b i k) x (b.length - y) y = if (decide (a[x] = b[y]) && decide (1 + tl a b (x + 1) (y + 1) = tl a b i k)) = true then some y else frF a b (tl a b i k) x (b.length - (y + 1)) (y + 1) := by
    rw [show b.length - y = (b.length - (y + 1)) + 1 by omega, frF, List.getElem?_eq_getElem hxl, List.getElem?_eq_getElem hyl]
   have htb := tl_b a b (x + 1) (y + 1)
   have hg1 := flC_get (a := a) (b := b) (p := 0) (i := x + 1) (j := y + 1) (by omega) (by omega) (by omega)
   have hg2 := flC_get (a := a) (b := b) (p := 0) (i := i) (j := k) (by omega) (by omega) (by omega)
   have hl1 := fl_lt (a := a) (b := b) (i := x + 1) (j := y + 1) (by omega) (by omega)
   have hl2 := fl_lt (a := a) (b := b) (i := i) (j := k) (by omega) (by omega)
   have hlM : (a.length + 1) * (b.length + 1) ≤ 1001 * 1001 := Nat.mul_le_mul (by omega) (by omega)
   have hm1 : ((x : Int) + 1) * ((b.length : Int) + 1) = (((x + 1) * (b.length + 1) : Nat) : Int) := by push_cast; rfl
   have hm2 : (i : Int) * ((b.length : Int) + 1) = ((i * (b.length + 1) : Nat) : Int) := by push_cast; rfl
   generalize (x + 1) * (b.length + 1) = e1 at hg1 hl1 hm1
   generalize i * (b.length + 1) = e2 at hg2 hl2 hm2
   have hfl := flC_len a b 0
   have encs := And.intro encs (And.intro hm1 hm2)
   simp only [↓sx0, sxE, encs, sevalprocAttr]
   refine DrawW.plan Tok mixed (.q 0 <| .q 1 <| .q 2 <| .q 3 <| .q 4 <| .q 5 <| .q 6 <| .q 7 <| .q 8 <| .q 9 <| .q 10 <| .q 11 <| .q 12 <| .q 13 <| .q 14 <| .q 15 <| .q 16 <| .q 17 <| .q 18 <| .q 19 <| .q 20 <| .q 21 <| .q 22 <| .q 23 <| .q 24 <| .q 25 <| .q 26 <| .q 27 <| .q 28 <| .q 29 <| .q 30 <| .done) (by kernel_rfl) (by kernel_rfl) ?_
   simp only [↓sx0, sxE, encs, sevalprocAttr]
   refine IxW.nat hxl ?_
   simp only [↓sx0, sxE, encs, sevalprocAttr]
   refine IxW.nat hyl ?_
   simp only [↓sx0, sxE, encs, sevalprocAttr]
   refine BrW.dec (fun heq => ?_) (fun heq => ?_)
   ·simp only [↓sx0, sxE, encs, sevalprocAttr]
    repeat ((with_reducible refine Vc.go ?_ fun _ => ?_); (focus (first | omega | (simp only [InK]; omega) | (simp [InK]; done) | (simp [InK]; omega))); simp only [↓sx0, sxE, encs, sevalprocAttr])
    refine ⟨by omega, _, (by rw [show ((e1 : Int) + y + 1).toNat = e1 + (y + 1) by omega]; exact hg1), ?_⟩
    simp only [↓sx0, sxE, encs, sevalprocAttr]
    repeat ((with_reducible refine Vc.go ?_ fun _ => ?_); (focus (first | omega | (simp only [InK]; omega) | (simp [InK]; done) | (simp [InK]; omega))); simp only [↓sx0, sxE, encs, sevalprocAttr])
    refine ⟨by omega, _, (by rw [show ((e2 : Int) + k).toNat = e2 + k by omega]; exact hg2), ?_⟩
    simp only [↓sx0, sxE, encs, sevalprocAttr]
    refine BrW.dec (fun h2 => ?_) (fun h2 => ?_)
    ·rw [if_pos (by rw [heq, h2]; simp)] at hFs
     rw [← hF, hFs] at hXs
     rw [← hX, hXs]
     simp only [↓sx0, sxE, encs, sevalprocAttr]
     refine EndW.fn ?_ ?_ <;> simp only [sx4, encs, kpLL_map, sxR, sevalprocAttr] <;> (try simp) <;> (try omega)
    ·rw [if_neg (by rw [decide_eq_false h2]; simp)] at hFs
     simp only [↓sx0, sxE, encs, sevalprocAttr]
     repeat ((with_reducible refine Vc.go ?_ fun _ => ?_); (focus (first | omega | (simp only [InK]; omega) | (simp [InK]; done) | (simp [InK]; omega))); simp only [↓sx0, sxE, encs, sevalprocAttr])
     refine ⟨y + 1, StLe.auto (by simp only [sx2, encs, sxR, sevalprocAttr] <;> (try simp) <;> (try omega)), ?_, ?_⟩
     ·exact ⟨⟨by omega, by omega⟩, by rw [← hF, hFs]⟩
     ·omega
   ·rw [if_neg (by rw [decide_eq_false heq]; simp)] at hFs
    simp only [↓sx0, sxE, encs, sevalprocAttr]
    repeat ((with_reducible refine Vc.go ?_ fun _ => ?_); (focus (first | omega | (simp only [InK]; omega) | (simp [InK]; done) | (simp [InK]; omega))); simp only [↓sx0, sxE, encs, sevalprocAttr])
    refine ⟨y + 1, StLe.auto (by simp only [sx2, encs, sxR, sevalprocAttr] <;> (try simp) <;> (try omega)), ?_, ?_⟩
    ·exact ⟨⟨by omega, by omega⟩, by rw [← hF, hFs]⟩
    ·omega
  ·have hye : y = b.length := by omega
   rw [hye, Nat.sub_self, frF] at hF
   rw [← hF] at hXs
   simp only [↓sx0, sxE, encs, sevalprocAttr]
   repeat ((with_reducible refine Vc.go ?_ fun _ => ?_); (focus (first | omega | (simp only [InK]; omega) | (simp [InK]; done) | (simp [InK]; omega))); simp only [↓sx0, sxE, encs, sevalprocAttr])
   refine ⟨x + 1, StLe.auto (by simp only [sx2, encs, sxR, sevalprocAttr] <;> (try simp) <;> (try omega)), ?_, ?_⟩
   ·exact ⟨⟨by omega, by omega⟩, by rw [← hX, hXs]⟩
   ·omega
 ·have hxe : x = a.length := by omega
  rw [hxe, Nat.sub_self, frX] at hX
  rw [← hX]
  simp only [↓sx0, sxE, encs, sevalprocAttr]
  refine EndW.fn ?_ ?_ <;> simp only [sx4, encs, kpLL_map, sxR, sevalprocAttr] <;> (try simp) <;> (try omega)
end Go.Proofs.YthkkcemefngeiaaGreat
/-
 Chapter 8: pairs that are kept (the reference answers as the program).
-/
namespace Go.Proofs.YthkkcemefngeiaaGreat
open Go Go.Vx
set_option linter.unusedSimpArgs false
set_option linter.unusedVariables false
set_option maxRecDepth 20000
theorem tl_mono2 {a b : List Int} {i f : Nat} (hi : i ≤ a.length) (hf : f < b.length) : tl a b i (f + 1) ≤ tl a b i f := by
 by_cases h : i < a.length
 ·rw [tl_step h hf]; split <;> omega
 ·have : i = a.length := by omega
  subst this; rw [tl_end1, tl_end1]; omega
theorem tl_mono1 {a b : List Int} {i f : Nat} (hi : i < a.length) (hf : f ≤ b.length) : tl a b (i + 1) f ≤ tl a b i f := by
 by_cases h : f < b.length
 ·rw [tl_step hi h]; split <;> omega
 ·have : f = b.length := by omega
  subst this; rw [tl_end2, tl_end2]; omega
theorem tl_skip {a b : List Int} {i : Nat} (hi : i < a.length) (V : Int) : ∀ n f, f + n = b.length → tl a b i f = V → (∀ k (h : k < b.length), f ≤ k → ¬ (a[i] = b[k] ∧ tl a b (i + 1) (k + 1) + 1 = V)) → tl a b (i + 1) f = V
 | 0, f, hn, hV, _ => by
  have : f = b.length := by omega
  subst this; rw [tl_end2] at hV ⊢; exact hV
 | n + 1, f, hn, hV, hno => by
  have hf : f < b.length := by omega
  have hs := tl_step hi hf
  have h0 := hno f hf (Nat.le_refl _)
  have m1 := tl_mono1 (b := b) hi (Nat.le_of_lt hf)
  have m2 := tl_mono2 (a := a) (b := b) (i := i + 1) (by omega) hf
  by_cases e : tl a b i (f + 1) = V
  ·have := tl_skip hi V n (f + 1) (by omega) e fun k h hk => hno k h (by omega)
   omega
  ·split at hs
   ·rename_i q
    have : ¬ tl a b (i + 1) (f + 1) + 1 = V := fun h => h0 ⟨q, h⟩
    omega
   ·omega
theorem keF_none {a b : List Int} {i f : Nat} (hi : i < a.length) : ∀ n y, y + n = b.length → keF a b i f n y = none → ∀ k (h : k < b.length), y ≤ k → ¬ (a[i] = b[k] ∧ tl a b (i + 1) (k + 1) + 1 = tl a b i f)
 | 0, y, hn, _, k, h, hk => by omega
 | n + 1, y, hn, hN, k, h, hk => by
  unfold keF at hN
  split at hN
  ·cases hN
  ·rename_i q
   by_cases e : k = y
   ·subst e
    simp only [keP, List.getElem?_eq_getElem hi, List.getElem?_eq_getElem h, Bool.and_eq_true, decide_eq_true_eq] at q
    exact q
   ·exact keF_none hi n (y + 1) (by omega) hN k h (by omega)
theorem keF_some {a b : List Int} {i f : Nat} (hi : i < a.length) : ∀ n y k, y + n = b.length → keF a b i f n y = some k → ∃ h : k < b.length, a[i] = b[k] ∧ tl a b (i + 1) (k + 1) + 1 = tl a b i f
 | 0, y, k, _, hN => by simp [keF] at hN
 | n + 1, y, k, hn, hN => by
  unfold keF at hN
  split at hN
  ·rename_i q
   cases hN
   have h : y < b.length := by omega
   simp only [keP, List.getElem?_eq_getElem hi, List.getElem?_eq_getElem h, Bool.and_eq_true, decide_eq_true_eq] at q
   exact ⟨h, q⟩
  ·exact keF_some hi n (y + 1) k (by omega) hN
theorem frF_keF {a b : List Int} {i f : Nat} (hi : i < a.length) : ∀ n y, y + n ≤ b.length → frF a b (tl a b i f) i n y = keF a b i f n y
 | 0, _, _ => rfl
 | n + 1, y, hn => by
  have h : y < b.length := by omega
  rw [frF, keF, keP, List.getElem?_eq_getElem hi, List.getElem?_eq_getElem h, frF_keF hi n (y + 1) (by omega)]
  simp only [Int.add_comm 1]
theorem frst_ke {a b : List Int} : ∀ n i, i + n = a.length → 0 < tl a b i (keS a b i).2 → ∃ x y, frst a b i (keS a b i).2 = (x, y) ∧ i ≤ x ∧ x < a.length ∧ y < b.length ∧ keS a b (x + 1) = ((keS a b i).1 ++ [(x, y)], y + 1) ∧ tl a b (x + 1) (y + 1) + 1 = tl a b i (keS a b i).2
 | 0, i, hn, h => by
  have : i = a.length := by omega
  subst this; rw [tl_end1] at h; omega
 | n + 1, i, hn, h => by
  have hi : i < a.length := by omega
  obtain ⟨hb1, hb2⟩ := keS_b a b i
  have hF := frF_keF (a := a) (b := b) (f := (keS a b i).2) hi (b.length - (keS a b i).2) (keS a b i).2 (by omega)
  unfold frst
  rw [show a.length - i = n + 1 by omega, frX, hF]
  cases hN : keF a b i (keS a b i).2 (b.length - (keS a b i).2) (keS a b i).2 with
  | some y =>
   obtain ⟨h1, h2, h3⟩ := keF_some hi (b.length - (keS a b i).2) (keS a b i).2 _ (by omega) hN
   refine ⟨i, y, rfl, Nat.le_refl _, hi, h1, ?_, h3⟩
   rw [keS, keN, hN]
  | none =>
   have hs : keS a b (i + 1) = keS a b i := by rw [keS, keN, hN]
   have ht := tl_skip hi (tl a b i (keS a b i).2) (b.length - (keS a b i).2) (keS a b i).2 (by omega) rfl (keF_none hi (b.length - (keS a b i).2) (keS a b i).2 (by omega) hN)
   obtain ⟨x, y, h1, h2, h3, h4, h5, h6⟩ := frst_ke (a := a) (b := b) n (i + 1) (by omega) (by rw [hs, ht]; exact h)
   rw [hs] at h1 h5 h6
   rw [ht] at h6
   refine ⟨x, y, ?_, by omega, h3, h4, h5, h6⟩
   rw [← h1, frst, ht, show a.length - (i + 1) = n by omega]
theorem keS_end {a b : List Int} : ∀ n i, i + n = a.length → tl a b i (keS a b i).2 = 0 → (keS a b i).1 = keptL a b
 | 0, i, hn, _ => by rw [keptL, show i = a.length by omega]
 | n + 1, i, hn, h => by
  have hi : i < a.length := by omega
  obtain ⟨hb1, hb2⟩ := keS_b a b i
  cases hN : keF a b i (keS a b i).2 (b.length - (keS a b i).2) (keS a b i).2 with
  | some y =>
   obtain ⟨h1, h2, h3⟩ := keF_some hi (b.length - (keS a b i).2) (keS a b i).2 _ (by omega) hN
   have := tl_b a b (i + 1) (y + 1)
   omega
  | none =>
   have hs : keS a b (i + 1) = keS a b i := by rw [keS, keN, hN]
   have m := tl_mono1 (b := b) hi hb1
   have := tl_b a b (i + 1) (keS a b i).2
   rw [← hs]
   exact keS_end n (i + 1) (by omega) (by rw [hs]; omega)
set_option maxHeartbeats 8000000 in
theorem kept_R (b1 b2 : Bool) (a b : List Int) (ha : a.length ≤ 1000) (hb : b.length ≤ 1000) : Ctr Tryz.prog 15 [.sl b1 1 (a.map eI), .sl b2 1 (b.map eI)] (fun rr => rr = ⟨.sl true 2 ((keptL a b).map eJ), []⟩) := by
 have encs := And.intro encs (show ∀ p, eJ p = [(.v (.int .i64 ((p.1 : Int)))), (.v (.int .i64 ((p.2 : Int))))] from fun _ => rfl)
 have hM : ((a.length : Int) + 1) * ((b.length : Int) + 1) = (((a.length + 1) * (b.length + 1) : Nat) : Int) := by push_cast; rfl
 have hlM : (a.length + 1) * (b.length + 1) ≤ 1001 * 1001 := Nat.mul_le_mul (by omega) (by omega)
 have hlp : 0 < (a.length + 1) * (b.length + 1) := Nat.mul_pos (by omega) (by omega)
 have encs := And.intro encs (And.intro hM Int.toNat_natCast)
 refine Ctr.of (rs := [.tmp 4]) Tok true Tryz.func15 rfl rfl rfl rfl (by simp [ofDL]) (fun w0 kp => ?_)
 simp only [↓sx0, sxE, encs, sevalprocAttr]
 repeat ((with_reducible refine Vc.go ?_ fun _ => ?_); (focus (first | omega | (simp only [InK]; omega) | (simp [InK]; done) | (simp [InK]; omega))); simp only [↓sx0, sxE, encs, sevalprocAttr])
 have er : List.replicate ((a.length + 1) * (b.length + 1)) [D.v (.int .i64 0)] = (flC a b (a.length * (b.length + 1))).map eI := by rw [flC_zero]; simp [eI]
 rw [er]
 refine LoopW.comp [0, 1, 5, 6, 7] (by simp only [sx2, encs, sxR, sevalprocAttr] <;> (try simp) <;> (try omega)) ?_
 simp only [sx2, sxR, sevalprocAttr]
 refine LoopW.up Tok (fun x : Nat => [(7, (.v (.int .i64 ((x : Int) - 1))))]) (fun x => []) (fun x => [(0, (flC a b (x * (b.length + 1))).map eI)]) (fun x => []) (fun x => x ≤ a.length) (fun x => x) (a.length) (by simp only [sx2, encs, sxR, sevalprocAttr] <;> (try simp) <;> (try omega)) ?_ ?_
 ·omega
 rintro x hx
 simp only [↓sx0, sxE, encs, sevalprocAttr]
 refine BrW.dec (fun hlt => ?_) (fun hlt => ?_)
 ·simp only [↓sx0, sxE, encs, sevalprocAttr]
  obtain ⟨i, rfl⟩ : ∃ i, x = i + 1 := ⟨x - 1, by omega⟩
  have e3 : (((i + 1 : Nat) : Int) - 1) = (i : Int) := by omega
  rw [e3, ← flC_row]
  have hia : i < a.length := by omega
  repeat ((with_reducible refine Vc.go ?_ fun _ => ?_); (focus (first | omega | (simp only [InK]; omega) | (simp [InK]; done) | (simp [InK]; omega))); simp only [↓sx0, sxE, encs, sevalprocAttr])
  refine LoopW.comp [0, 1, 5, 6, 7, 8] (by simp only [sx2, encs, sxR, sevalprocAttr] <;> (try simp) <;> (try omega)) ?_
  simp only [sx2, sxR, sevalprocAttr]
  refine LoopW.up Tok (fun j : Nat => [(8, (.v (.int .i64 ((j : Int) - 1))))]) (fun j => []) (fun j => [(0, (flC a b (i * (b.length + 1) + j)).map eI)]) (fun j => []) (fun j => j ≤ b.length) (fun j => j) (b.length) (by simp only [sx2, encs, sxR, sevalprocAttr] <;> (try simp) <;> (try omega)) ?_ ?_
  ·omega
  rintro j hj
  simp only [↓sx0, sxE, encs, sevalprocAttr]
  refine BrW.dec (fun hlt2 => ?_) (fun hlt2 => ?_)
  ·simp only [↓sx0, sxE, encs, sevalprocAttr]
   obtain ⟨q, rfl⟩ : ∃ q, j = q + 1 := ⟨j - 1, by omega⟩
   have e4 : (((q + 1 : Nat) : Int) - 1) = (q : Int) := by omega
   rw [e4]
   have hqb : q < b.length := by omega
   have hg1 := flC_get (a := a) (b := b) (p := i * (b.length + 1) + (q + 1)) (i := i + 1) (j := q) (by omega) (by omega) (by rw [Nat.succ_mul]; omega)
   have hg2 := flC_get (a := a) (b := b) (p := i * (b.length + 1) + (q + 1)) (i := i) (j := q + 1) (by omega) (by omega) (by omega)
   have hg3 := fun v => flV_self (a := a) (b := b) (i := i) (j := q) (v := v) (by omega) (by omega)
   have hg4 := fun v => flV_get (a := a) (b := b) (p := i * (b.length + 1) + q) (i := i + 1) (j := q + 1) (v := v) (by omega) (by omega) (by rw [Nat.succ_mul]; omega)
   have hl1 := fl_lt (a := a) (b := b) (i := i + 1) (j := q + 1) (by omega) (by omega)
   have hm1 : ((i : Int) + 1) * ((b.length : Int) + 1) = ((i * (b.length + 1) : Nat) : Int) + b.length + 1 := by push_cast; rw [Int.add_mul]; omega
   have hm2 : (i : Int) * ((b.length : Int) + 1) = ((i * (b.length + 1) : Nat) : Int) := by push_cast; rfl
   have hsm : (i + 1) * (b.length + 1) = i * (b.length + 1) + b.length + 1 := by rw [Nat.succ_mul]; omega
   have hvt := flV_tl a b i q (by omega)
   have hst := tl_step hia hqb
   have hb1 := tl_b a b (i + 1) (q + 1)
   rw [hsm] at hg1 hg4 hl1
   generalize hE : i * (b.length + 1) = e at hg1 hg2 hg3 hg4 hl1 hm1 hm2 hvt ⊢
   have hfl := flC_len a b (e + (q + 1))
   have hfv := flV_len a b (e + q)
   have hput := fun v => flC_put a b (e + q) v
   have hput2 := fun u v => flV_put a b (e + q) u v
   have encs := And.intro encs (And.intro hm1 hm2)
   refine DrawW.plan Tok mixed (.q 0 <| .q 1 <| .q 2 <| .q 3 <| .q 4 <| .q 5 <| .q 6 <| .q 7 <| .q 8 <| .q 9 <| .q 10 <| .q 11 <| .q 12 <| .q 13 <| .q 14 <| .q 15 <| .q 16 <| .q 17 <| .q 18 <| .q 19 <| .q 20 <| .q 21 <| .q 22 <| .q 23 <| .q 24 <| .q 25 <| .e 26 [] <| .done) (by kernel_rfl) (by kernel_rfl) ?_
   simp only [↓sx0, sxE, encs, sevalprocAttr]
   repeat ((with_reducible refine Vc.go ?_ fun _ => ?_); (focus (first | omega | (simp only [InK]; omega) | (simp [InK]; done) | (simp [InK]; omega))); simp only [↓sx0, sxE, encs, sevalprocAttr])
   refine ⟨by omega, _, (by rw [show ((e : Int) + b.length + 1 + q).toNat = e + b.length + 1 + q by omega]; exact hg1), ?_⟩
   simp only [↓sx0, sxE, encs, sevalprocAttr]
   repeat ((with_reducible refine Vc.go ?_ fun _ => ?_); (focus (first | omega | (simp only [InK]; omega) | (simp [InK]; done) | (simp [InK]; omega))); simp only [↓sx0, sxE, encs, sevalprocAttr])
   refine ⟨by omega, _, (by rw [show ((e : Int) + q + 1).toNat = e + (q + 1) by omega]; exact hg2), ?_⟩
   simp only [↓sx0, sxE, encs, sevalprocAttr]
   repeat ((with_reducible refine Vc.go ?_ fun _ => ?_); (focus (first | omega | (simp only [InK]; omega) | (simp [InK]; done) | (simp [InK]; omega))); simp only [↓sx0, sxE, encs, sevalprocAttr])
   rw [show ((e : Int) + q).toNat = e + q by omega, show e + (q + 1) = e + q + 1 by omega, hput]
   refine DrawW.plan Tok mixed (.q 0 <| .q 1 <| .q 2 <| .q 3 <| .q 4 <| .q 5 <| .q 6 <| .q 7 <| .q 8 <| .done) (by kernel_rfl) (by kernel_rfl) ?_
   simp only [↓sx0, sxE, encs, sevalprocAttr]
   refine IxW.nat hia ?_
   simp only [↓sx0, sxE, encs, sevalprocAttr]
   refine IxW.nat hqb ?_
   simp only [↓sx0, sxE, encs, sevalprocAttr]
   refine BrW.dec (fun heq => ?_) (fun heq => ?_)
   ·rw [if_pos heq] at hst
    simp only [↓sx0, sxE, encs, sevalprocAttr]
    refine DrawW.plan Tok mixed (.q 0 <| .q 1 <| .q 2 <| .q 3 <| .q 4 <| .q 5 <| .q 6 <| .q 7 <| .q 8 <| .q 9 <| .q 10 <| .q 11 <| .q 12 <| .q 13 <| .q 14 <| .q 15 <| .q 16 <| .q 17 <| .q 18 <| .q 19 <| .q 20 <| .q 21 <| .q 22 <| .q 23 <| .q 24 <| .q 25 <| .q 26 <| .e 27 [] <| .done) (by kernel_rfl) (by kernel_rfl) ?_
    simp only [↓sx0, sxE, encs, sevalprocAttr]
    repeat ((with_reducible refine Vc.go ?_ fun _ => ?_); (focus (first | omega | (simp only [InK]; omega) | (simp [flV_len, InK]; done) | (simp [flV_len, InK]; omega))); simp only [↓sx0, sxE, encs, sevalprocAttr])
    refine ⟨by omega, _, (by rw [show ((e : Int) + q).toNat = e + q by omega]; exact hg3 _), ?_⟩
    simp only [↓sx0, sxE, encs, sevalprocAttr]
    repeat ((with_reducible refine Vc.go ?_ fun _ => ?_); (focus (first | omega | (simp only [InK]; omega) | (simp [flV_len, InK]; done) | (simp [flV_len, InK]; omega))); simp only [↓sx0, sxE, encs, sevalprocAttr])
    refine ⟨by omega, _, (by rw [show ((e : Int) + b.length + 1 + q + 1).toNat = e + b.length + 1 + (q + 1) by omega]; exact hg4 _), ?_⟩
    simp only [↓sx0, sxE, encs, sevalprocAttr]
    repeat ((with_reducible refine Vc.go ?_ fun _ => ?_); (focus (first | omega | (simp only [InK]; omega) | (simp [flV_len, InK]; done) | (simp [flV_len, InK]; omega))); simp only [↓sx0, sxE, encs, sevalprocAttr])
    rw [show ((e : Int) + q).toNat = e + q by omega, hput2, Int.add_comm 1, ← hst, hvt]
    repeat ((with_reducible refine Vc.go ?_ fun _ => ?_); (focus (first | omega | (simp only [InK]; omega) | (simp [InK]; done) | (simp [InK]; omega))); simp only [↓sx0, sxE, encs, sevalprocAttr])
    refine ⟨q, StLe.auto (by simp only [sx2, encs, sxR, sevalprocAttr] <;> (try simp [hE, encs]) <;> (try omega)), ?_, ?_⟩
    all_goals omega
   ·rw [if_neg heq] at hst
    rw [← hst, hvt]
    simp only [↓sx0, sxE, encs, sevalprocAttr]
    repeat ((with_reducible refine Vc.go ?_ fun _ => ?_); (focus (first | omega | (simp only [InK]; omega) | (simp [InK]; done) | (simp [InK]; omega))); simp only [↓sx0, sxE, encs, sevalprocAttr])
    refine ⟨q, StLe.auto (by simp only [sx2, encs, sxR, sevalprocAttr] <;> (try simp [hE, encs]) <;> (try omega)), ?_, ?_⟩
    all_goals omega
  ·simp only [↓sx0, sxE, encs, sevalprocAttr]
   have hj0 : j = 0 := by omega
   subst hj0
   rw [Nat.add_zero]
   repeat ((with_reducible refine Vc.go ?_ fun _ => ?_); (focus (first | omega | (simp only [InK]; omega) | (simp [InK]; done) | (simp [InK]; omega))); simp only [↓sx0, sxE, encs, sevalprocAttr])
   refine ⟨i, StLe.auto (by simp only [sx2, encs, sxR, sevalprocAttr] <;> (try simp) <;> (try omega)), ?_, ?_⟩
   all_goals omega
 ·simp only [↓sx0, sxE, encs, sevalprocAttr]
  have hx0 : x = 0 := by omega
  subst hx0
  rw [Nat.zero_mul]
  refine LoopW.comp [0, 1, 5, 6, 9, 10, 11] (by simp only [sx2, encs, sxR, sevalprocAttr] <;> (try simp) <;> (try omega)) ?_
  simp only [sx2, sxR, sevalprocAttr]
  refine LoopW.up Tok (fun i : Nat => [(9, .row 1), (10, (.v (.int .i64 ((i : Int))))), (11, (.v (.int .i64 (((keS a b i).2 : Int)))))]) (fun i => []) (fun i => [(0, (flC a b 0).map eI)]) (fun i => [.own 37 2 ((keS a b i).1.map eJ)]) (fun i => i ≤ a.length) (fun i => a.length - i) (0) (by simp only [sx2, encs, sxR, sevalprocAttr] <;> (try simp [keS, encs]) <;> (try omega)) ?_ ?_
  ·omega
  rintro i hi
  obtain ⟨hb1, hb2⟩ := keS_b a b i
  have hg := flC_get (a := a) (b := b) (p := 0) (i := i) (j := (keS a b i).2) (by omega) (by omega) (by omega)
  have hl1 := fl_lt (a := a) (b := b) (i := i) (j := (keS a b i).2) (by omega) (by omega)
  have hm1 : (i : Int) * ((b.length : Int) + 1) = ((i * (b.length + 1) : Nat) : Int) := by push_cast; rfl
  have htb := tl_b a b i (keS a b i).2
  have hst := frst_ke (a := a) (b := b) (a.length - i) i (by omega)
  have hen := keS_end (a := a) (b := b) (a.length - i) i (by omega)
  have hfst := first_R b1 b2 false a b i (keS a b i).2 ha hb hi hb1
  generalize hE : i * (b.length + 1) = e at hg hl1 hm1
  generalize hK : keS a b i = K at hb1 hb2 hg hl1 htb hst hen hfst ⊢
  obtain ⟨out, f⟩ := K
  simp only at hb1 hb2 hg hl1 htb hst hen hfst
  have encs := And.intro encs hm1
  simp only [↓sx0, sxE, encs, sevalprocAttr]
  repeat ((with_reducible refine Vc.go ?_ fun _ => ?_); (focus (first | omega | (simp only [InK]; omega) | (simp [flC_len, InK]; done) | (simp [flC_len, InK]; omega))); simp only [↓sx0, sxE, encs, sevalprocAttr])
  refine ⟨by omega, _, (by rw [show ((e : Int) + f).toNat = e + f by omega]; exact hg), ?_⟩
  simp only [↓sx0, sxE, encs, sevalprocAttr]
  refine BrW.dec (fun hpos => ?_) (fun hpos => ?_)
  ·obtain ⟨x, y, h1, h2, h3, h4, h5, h6⟩ := hst hpos
   simp only [h1] at hfst
   simp only [↓sx0, sxE, encs, sevalprocAttr]
   refine CallI.fn (hfst) (by simp only [sx3, encs, sxR, sevalprocAttr] <;> (try simp) <;> (try rfl)) ?_
   simp only [↓sx0, sxE, encs, sevalprocAttr]
   repeat ((with_reducible refine Vc.go ?_ fun _ => ?_); (focus (first | omega | (simp only [InK]; omega) | (simp [InK]; done) | (simp [InK]; omega))); simp only [↓sx0, sxE, encs, sevalprocAttr])
   refine ⟨x + 1, StLe.auto (by simp only [sx2, encs, sxR, sevalprocAttr] <;> (try simp [h5, encs]) <;> (try omega)), ?_, ?_⟩
   all_goals omega
  ·have hz : out = keptL a b := hen (by omega)
   simp only [↓sx0, sxE, encs, sevalprocAttr]
   rw [← hz]
   refine EndW.fn ?_ ?_ <;> simp only [sx4, encs, kpLL_map, sxR, sevalprocAttr] <;> (try simp) <;> (try omega)
end Go.Proofs.YthkkcemefngeiaaGreat
/-
 Chapter 8: what stands more often: both ways answer the same; what is not kept is at least what moves.
-/
namespace Go.Proofs.YthkkcemefngeiaaGreat
open Go Go.Vx
set_option linter.unusedSimpArgs false
set_option linter.unusedVariables false
set_option maxRecDepth 20000
theorem insS_cons (y : Int) (l : List Int) (x : Int) : insS (y :: l) x = if y ≤ x then y :: insS l x else x :: y :: l := by
 unfold insS
 by_cases h : y ≤ x
 ·simp [List.takeWhile_cons, List.dropWhile_cons, h]
 ·simp [List.takeWhile_cons, List.dropWhile_cons, h]
theorem insS_nil (x : Int) : insS [] x = [x] := rfl
theorem insS_count (x z : Int) : ∀ l, (insS l x).count z = l.count z + if x = z then 1 else 0
 | [] => by rw [insS_nil, List.count_singleton]; simp [beq_iff_eq]
 | y :: l => by
  rw [insS_cons]
  split
  ·rw [List.count_cons, List.count_cons, insS_count x z l]; omega
  ·rw [List.count_cons]; simp [beq_iff_eq]
theorem insS_mem {x z : Int} {l : List Int} (h : z ∈ insS l x) : z = x ∨ z ∈ l := by
 have := List.count_pos_iff.2 h
 rw [insS_count] at this
 by_cases e : x = z
 ·exact .inl e.symm
 ·rw [if_neg e, Nat.add_zero] at this; exact .inr (List.count_pos_iff.1 this)
theorem insS_sorted (x : Int) : ∀ {l : List Int}, l.Pairwise (· ≤ ·) → (insS l x).Pairwise (· ≤ ·)
 | [], _ => by rw [insS_nil]; exact List.pairwise_singleton _ _
 | y :: l, h => by
  rw [List.pairwise_cons] at h
  rw [insS_cons]
  split
  ·rename_i hy
   rw [List.pairwise_cons]
   refine ⟨fun z hz => ?_, insS_sorted x h.2⟩
   rcases insS_mem hz with rfl | hz
   ·exact hy
   ·exact h.1 z hz
  ·rename_i hy
   rw [List.pairwise_cons, List.pairwise_cons]
   refine ⟨fun z hz => ?_, h⟩
   rcases List.mem_cons.1 hz with rfl | hz
   ·omega
   ·have := h.1 z hz; omega
theorem moreR_sorted (a b : List Int) : ∀ k, (moreR a b k).Pairwise (· ≤ ·)
 | 0 => List.Pairwise.nil
 | k + 1 => by
  rw [moreR]
  split
  ·exact insS_sorted _ (moreR_sorted a b k)
  ·exact moreR_sorted a b k
theorem moreR_count (a b : List Int) (x : Int) : ∀ k, k ≤ a.length → (moreR a b k).count x = (a.take k).count x - b.count x
 | 0, _ => by simp [moreR]
 | k + 1, h => by
  have ih := moreR_count a b x k (by omega)
  have hs := cnt_succ (l := a) (k := k) (by omega) x
  rw [moreR, List.getElem?_eq_getElem (show k < a.length by omega), Option.getD_some, hs]
  split
  ·rename_i hc
   rw [insS_count, ih]
   by_cases e : a[k] = x
   ·rw [e] at hc; rw [if_pos e]; omega
   ·rw [if_neg e]; omega
  ·rename_i hc
   rw [ih]
   by_cases e : a[k] = x
   ·rw [e] at hc; rw [if_pos e]; omega
   ·rw [if_neg e]; omega
theorem moreP_count (b s : List Int) (x : Int) : ∀ k, k ≤ s.length → (moreP b s k).count x = (s.take k).count x - b.count x
 | 0, _ => by simp [moreP]
 | k + 1, h => by
  have ih := moreP_count b s x k (by omega)
  have hs := cnt_succ (l := s) (k := k) (by omega) x
  rw [moreP, List.getElem?_eq_getElem (show k < s.length by omega), Option.getD_some, hs, List.count_append, ih]
  split
  ·rename_i hc
   rw [List.count_singleton]
   by_cases e : s[k] = x
   ·rw [e] at hc; simp only [e, beq_self_eq_true, if_true]; omega
   ·simp only [beq_iff_eq, e, if_false]; omega
  ·rename_i hc
   by_cases e : s[k] = x
   ·rw [e] at hc; rw [if_pos e]; simp; omega
   ·rw [if_neg e]; simp
theorem moreP_sub (b s : List Int) : ∀ k, k ≤ s.length → (moreP b s k).Sublist (s.take k)
 | 0, _ => by simp [moreP]
 | k + 1, h => by
  have ih := moreP_sub b s k (by omega)
  rw [moreP, List.getElem?_eq_getElem (show k < s.length by omega), Option.getD_some, List.take_succ_eq_append_getElem (show k < s.length by omega)]
  refine List.Sublist.append ih ?_
  split
  ·exact List.Sublist.refl _
  ·exact List.nil_sublist _
theorem sortI_sorted (l : List Int) : (sortI l).Pairwise (· ≤ ·) := by
 have h := List.pairwise_mergeSort (le := fun x y : Int => decide (x ≤ y)) (fun a b c h1 h2 => by simp only [decide_eq_true_eq] at *; omega) (fun a b => by simp only [Bool.or_eq_true, decide_eq_true_eq]; omega) l
 exact h.imp (fun h => by simpa using h)
theorem sortI_len (l : List Int) : (sortI l).length = l.length := List.length_mergeSort _
theorem more_eq (a b : List Int) : moreP b (sortI a) a.length = moreR a b a.length := by
 have hl := sortI_len a
 have hs := moreP_sub b (sortI a) a.length (by omega)
 refine List.Perm.eq_of_pairwise (le := fun x y : Int => x ≤ y) (fun x y _ _ h1 h2 => by omega) ((sortI_sorted a).sublist (hs.trans (List.take_sublist _ _))) (moreR_sorted a b _) ?_
 rw [List.perm_iff_count]
 intro x
 rw [moreP_count b _ x _ (by omega), moreR_count a b x _ (Nat.le_refl _), ← hl, List.take_length, hl, List.take_length, show (sortI a).count x = a.count x from (List.mergeSort_perm a _).count_eq x]
theorem len_of_count : ∀ (l m : List Int), (∀ x, l.count x ≤ m.count x) → l.length ≤ m.length
 | [], m, _ => Nat.zero_le _
 | y :: l, m, h => by
  have h0 := h y
  rw [List.count_cons_self] at h0
  have hm : y ∈ m := List.count_pos_iff.1 (by omega)
  have ih := len_of_count l (m.erase y) fun x => by
   have := h x
   rw [List.count_cons] at this
   rw [List.count_erase]
   split at this <;> rename_i e
   ·rw [if_pos e]; omega
   ·rw [if_neg e]; omega
  have := List.length_pos_of_mem hm
  rw [List.length_erase_of_mem hm] at ih
  rw [List.length_cons]; omega
def kA (a : List Int) (ps : List (Nat × Nat)) : List Int := ps.map fun p => a[p.1]?.getD 0
def kB (b : List Int) (ps : List (Nat × Nat)) : List Int := ps.map fun p => b[p.2]?.getD 0
theorem take_sub {l : List Int} {i k : Nat} (h : i ≤ k) : (l.take i).Sublist (l.take k) := List.take_sublist_take_left h
theorem kept_sub (a b : List Int) : ∀ i, i ≤ a.length → (kA a (keS a b i).1).Sublist (a.take i) ∧ (kB b (keS a b i).1).Sublist (b.take (keS a b i).2) ∧ kA a (keS a b i).1 = kB b (keS a b i).1
 | 0, _ => by simp [keS, kA, kB]
 | i + 1, h => by
  obtain ⟨h1, h2, h3⟩ := kept_sub a b i (by omega)
  obtain ⟨hb1, hb2⟩ := keS_b a b i
  have hi : i < a.length := by omega
  cases hN : keF a b i (keS a b i).2 (b.length - (keS a b i).2) (keS a b i).2 with
  | some y =>
   obtain ⟨q1, q2, q3⟩ := keF_some hi (b.length - (keS a b i).2) (keS a b i).2 _ (by omega) hN
   have q4 := keF_b a b i _ _ _ _ hN
   have hs : keS a b (i + 1) = ((keS a b i).1 ++ [(i, y)], y + 1) := by rw [keS, keN, hN]
   have e1 : kA a ((keS a b i).1 ++ [(i, y)]) = kA a (keS a b i).1 ++ [a[i]] := by simp [kA, hi]
   have e2 : kB b ((keS a b i).1 ++ [(i, y)]) = kB b (keS a b i).1 ++ [b[y]] := by simp [kB, q1]
   rw [hs]
   simp only [e1, e2]
   refine ⟨?_, ?_, by rw [h3, q2]⟩
   ·rw [List.take_succ_eq_append_getElem hi]; exact h1.append (List.Sublist.refl _)
   ·rw [List.take_succ_eq_append_getElem q1]; exact (h2.trans (take_sub q4.1)).append (List.Sublist.refl _)
  | none =>
   have hs : keS a b (i + 1) = keS a b i := by rw [keS, keN, hN]
   rw [hs]
   exact ⟨h1.trans (take_sub (Nat.le_succ _)), h2, h3⟩
theorem kept_le (a b : List Int) : (moreR a b a.length).length + (keptL a b).length ≤ a.length ∧ (moreR b a b.length).length + (keptL a b).length ≤ b.length := by
 obtain ⟨h1, h2, h3⟩ := kept_sub a b a.length (Nat.le_refl _)
 rw [List.take_length] at h1
 have h2 := h2.trans (List.take_sublist _ _)
 have hl : (kA a (keS a b a.length).1).length = (keptL a b).length := by simp [kA, keptL]
 rw [← h3] at h2
 constructor
 ·rw [← hl, ← List.length_append]
  refine len_of_count _ _ fun x => ?_
  rw [List.count_append, moreR_count a b x _ (Nat.le_refl _), List.take_length]
  have := h1.count_le x; have := h2.count_le x
  omega
 ·rw [← hl, ← List.length_append]
  refine len_of_count _ _ fun x => ?_
  rw [List.count_append, moreR_count b a x _ (Nat.le_refl _), List.take_length]
  have := h1.count_le x; have := h2.count_le x
  omega
def tmSV (v : List Int × List Int) : SV := .agg [.sl true 1 (v.1.map eI), .sl true 1 (v.2.map eI)]
theorem tmSV_at (p q : List Int) : tmSV (p, q) = .agg [.sl true 1 (p.map eI), .sl true 1 (q.map eI)] := rfl
theorem typeMovesR_s (b1 b2 : Bool) (a b : List Int) (ha : a.length ≤ 1000) (hb : b.length ≤ 1000) : Ctr Tryz.prog 14 [.sl b1 1 (a.map eI), .sl b2 1 (b.map eI)] (fun rr => rr = ⟨tmSV (moreR a b a.length, moreR b a b.length), []⟩) := by
 have encs := And.intro encs tmSV_at
 refine Ctr.of (rs := [.cell 4 29]) Tok true Tryz.func14 rfl rfl rfl rfl (by simp [ofDL]) (fun w0 kp => ?_)
 simp only [↓sx0, sxE, encs, sevalprocAttr]
 refine CallI.fn (more_R b1 b2 a b ha hb) (by simp only [sx3, encs, sxR, sevalprocAttr] <;> (try simp) <;> (try rfl)) ?_
 simp only [↓sx0, sxE, encs, sevalprocAttr]
 refine CallI.fn (more_R b2 b1 b a hb ha) (by simp only [sx3, encs, sxR, sevalprocAttr] <;> (try simp) <;> (try rfl)) ?_
 simp only [↓sx0, sxE, encs, sevalprocAttr]
 refine EndW.fn ?_ ?_ <;> simp only [sx4, encs, kpLL_map, sxR, sevalprocAttr] <;> (try simp) <;> (try omega)
def tmV (a b : List Int) : (List Int × List Int) × Int := if a.length ≤ 300 ∧ b.length ≤ 300 then ((moreR a b a.length, moreR b a b.length), 0) else (([], []), 8)
theorem typeMoves_s (a b : List Int) (ha : a.length ≤ 1000) (hb : b.length ≤ 1000) : Ctr Tryz.prog 7 [.sl true 1 (a.map eI), .sl true 1 (b.map eI)] (fun rr => rr = ⟨.tup [tmSV (tmV a b).1, (.v (.int .i64 ((tmV a b).2)))], []⟩) := by
 have encs := And.intro encs tmSV_at
 refine Ctr.of (rs := [.cell 4 29, .tmp 5]) Tok true Tryz.func7 rfl rfl rfl rfl (by simp [ofDL]) (fun w0 kp => ?_)
 simp only [↓sx0, sxE, encs, sevalprocAttr]
 have hcs := checkSorts_s true true a b
 by_cases hs : a.length ≤ 300 ∧ b.length ≤ 300
 ·rw [if_pos hs] at hcs
  rw [show tmV a b = ((moreR a b a.length, moreR b a b.length), 0) by rw [tmV, if_pos hs], ← more_eq a b, ← more_eq b a]
  refine CallI.fn (hcs) (by simp only [sx3, encs, sxR, sevalprocAttr] <;> (try simp) <;> (try rfl)) ?_
  simp only [↓sx0, sxE, encs, sevalprocAttr]
  refine BrW.no (by simp) ?_
  simp only [↓sx0, sxE, encs, sevalprocAttr]
  refine CallI.fn (more_s a b ha hb) (by simp only [sx3, encs, sxR, sevalprocAttr] <;> (try simp) <;> (try rfl)) ?_
  simp only [↓sx0, sxE, encs, sevalprocAttr]
  refine CallI.fn (more_s b a hb ha) (by simp only [sx3, encs, sxR, sevalprocAttr] <;> (try simp) <;> (try rfl)) ?_
  simp only [↓sx0, sxE, encs, sevalprocAttr]
  refine EndW.fn ?_ ?_ <;> simp only [sx4, encs, kpLL_map, sxR, sevalprocAttr] <;> (try simp) <;> (try omega)
 ·rw [if_neg hs] at hcs
  rw [show tmV a b = (([], []), 8) by rw [tmV, if_neg hs]]
  refine CallI.fn (hcs) (by simp only [sx3, encs, sxR, sevalprocAttr] <;> (try simp) <;> (try rfl)) ?_
  simp only [↓sx0, sxE, encs, sevalprocAttr]
  refine EndW.fn ?_ ?_ <;> simp only [sx4, encs, kpLL_map, sxR, sevalprocAttr] <;> (try simp) <;> (try omega)
end Go.Proofs.YthkkcemefngeiaaGreat
