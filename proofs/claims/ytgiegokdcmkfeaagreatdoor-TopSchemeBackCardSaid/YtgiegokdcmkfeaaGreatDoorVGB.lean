/-
 Chapter 6, walks: slices of leaves.
-/
import Derived.Test.YtgiegokdcmkfeaaGreatDoorVB6
import Derived.Test.YtgiegokdcmkfeaaGreatDoorVRev
set_option linter.unusedSimpArgs false
set_option linter.unusedVariables false
namespace Go.Proofs.YtgiegokdcmkfeaaGreatDoor
open Go Go.Vx
set_option maxRecDepth 20000
/-- slices.Clone at leaves. -/
theorem clone_s (b : Bool) (els : List (List D)) (hk : kpLL els) (hl : els.length ≤ 1000000) : Ctr Tryz.prog 116 [.sl b 4 els] (fun rr => rr = ⟨.row 0, [.own 79 4 els]⟩) := by
 refine Ctr.of (rs := [.tmp 2]) Tok false Tryz.func116 rfl rfl rfl rfl (by simp [ofDL]) (fun w0 kp => ?_)
 simp only [↓sx0, sxE, encs, sevalprocAttr]
 intro z hz
 refine BrW.of (fun h => ?_) (fun h => ?_)
 ·simp only [↓sx0, sxE, encs, sevalprocAttr]
  rw [hz h]
  exact EndW.r [none] (by simp) (by simp only [sx4, sxF, encs, kpLL_map, sxR, sevalprocAttr] <;> simp) (by simp only [sx4, sxF, encs, kpLL_map, sxR, sevalprocAttr] <;> simp) (by simp only [sx4, sxF, encs, kpLL_map, sxR, sevalprocAttr] <;> simp) (by simp only [sx4, sxF, encs, kpLL_map, sxR, sevalprocAttr] <;> simp)
 ·simp only [↓sx0, sxE, encs, sevalprocAttr]
  (with_reducible refine Vc.go ?_ fun _ => ?_); focus (first | omega | (simp only [InK]; omega) | (simp [InK]; done) | (simp [InK]; omega))
  simp only [↓sx0, sxE, encs, sevalprocAttr]
  exact EndW.r [some 1] (by simp) (by simp only [sx4, sxF, encs, kpLL_map, sxR, sevalprocAttr] <;> simp [hk]) (by simp only [sx4, sxF, encs, kpLL_map, sxR, sevalprocAttr] <;> simp [hk]) (by simp only [sx4, sxF, encs, kpLL_map, sxR, sevalprocAttr] <;> simp [hk]) (by simp only [sx4, sxF, encs, kpLL_map, sxR, sevalprocAttr] <;> simp [hk])
/-- slices.Grow at leaves, from nil. -/
theorem grow_s (n : Nat) (hn : n ≤ 1000000) : Ctr Tryz.prog 141 [.v (.slice none 0 0), (.v (.int .i64 n))] (fun rr => rr = ⟨.row 0, [.own 79 4 []]⟩) := by
 refine Ctr.of (rs := [.tmp 4]) Tok false Tryz.func141 rfl rfl rfl rfl (by simp [ofDL]) (fun w0 kp => ?_)
 simp only [↓sx0, sxE, encs, sevalprocAttr]
 refine BrW.no (by omega) ?_
 simp only [↓sx0, sxE, encs, sevalprocAttr]
 (with_reducible refine Vc.go ?_ fun _ => ?_); focus (first | omega | (simp only [InK]; omega) | (simp [InK]; done) | (simp [InK]; omega))
 simp only [↓sx0, sxE, encs, sevalprocAttr]
 (with_reducible refine Vc.go ?_ fun _ => ?_); focus (first | omega | (simp only [InK]; omega) | (simp [InK]; done) | (simp [InK]; omega))
 simp only [↓sx0, sxE, encs, sevalprocAttr]
 refine BrW.dec (fun h => ?_) (fun h => ?_)
 ·simp only [↓sx0, sxE, encs, sevalprocAttr]
  (with_reducible refine Vc.go ?_ fun _ => ?_); focus (first | omega | (simp only [InK]; omega) | (simp [InK]; done) | (simp [InK]; omega))
  simp only [↓sx0, sxE, encs, sevalprocAttr]
  (with_reducible refine Vc.go ?_ fun _ => ?_); focus (first | omega | (simp only [InK]; omega) | (simp [InK]; done) | (simp [InK]; omega))
  simp only [↓sx0, sxE, encs, sevalprocAttr]
  (with_reducible refine Vc.go ?_ fun _ => ?_); focus (first | omega | (simp only [InK]; omega) | (simp [InK]; done) | (simp [InK]; omega))
  simp only [↓sx0, sxE, encs, sevalprocAttr]
  exact EndW.r [some 1] (by simp) (by simp only [sx4, sxF, encs, kpLL_map, sxR, sevalprocAttr] <;> simp) (by simp only [sx4, sxF, encs, kpLL_map, sxR, sevalprocAttr] <;> simp) (by simp only [sx4, sxF, encs, kpLL_map, sxR, sevalprocAttr] <;> simp) (by simp only [sx4, sxF, encs, kpLL_map, sxR, sevalprocAttr] <;> simp)
 ·simp only [↓sx0, sxE, encs, sevalprocAttr]
  exact EndW.r [none] (by simp) (by simp only [sx4, sxF, encs, kpLL_map, sxR, sevalprocAttr] <;> simp) (by simp only [sx4, sxF, encs, kpLL_map, sxR, sevalprocAttr] <;> simp) (by simp only [sx4, sxF, encs, kpLL_map, sxR, sevalprocAttr] <;> simp) (by simp only [sx4, sxF, encs, kpLL_map, sxR, sevalprocAttr] <;> simp)
theorem lens_take {α : Type} {ls : List (List α)} {k : Nat} (h : k < ls.length) : (ls.take (k + 1)).flatten = (ls.take k).flatten ++ ls[k] := by
 rw [List.take_succ_eq_append_getElem h, List.flatten_append]; simp only [List.flatten_cons, List.flatten_nil, List.append_nil]
theorem lens_le {α : Type} (ls : List (List α)) (k : Nat) : (ls.take k).flatten.length ≤ ls.flatten.length := by
 conv => rhs; rw [← List.take_append_drop k ls, List.flatten_append, List.length_append]
 omega
/-- slices.Concat at leaves. -/
theorem concat_s (b : Bool) (ls : List (List Leaf)) (hn : ls.length ≤ 1000) (hl : ls.flatten.length ≤ 1000000) :
  Ctr Tryz.prog 119 [.sl b 1 (ls.map eK)] (fun rr => rr = ⟨.row 0, [.own 79 4 (ls.flatten.map eL)]⟩) := by
 refine Ctr.of (rs := [.tmp 2]) Tok false Tryz.func119 rfl rfl rfl rfl (by simp [ofDL]) (fun w0 kp => ?_)
 simp only [↓sx0, sxE, encs, sevalprocAttr]
 refine LoopW.comp [0, 3, 9, 10, 11] (by simp only [sx2, encs, sxR, sevalprocAttr] <;> (try simp) <;> (try omega)) ?_
 simp only [sx2, sxR, sevalprocAttr]
 refine LoopW.up Tok (fun k : Nat => [(3, (.v (.int .i64 ((ls.take k).flatten.length)))), (11, (.v (.int .i64 k)))]) (fun k => []) (fun k => []) (fun k => []) (fun k => k ≤ ls.length) (fun k => ls.length - k) (0) (by simp only [sx2, encs, sxR, sevalprocAttr] <;> (try simp) <;> (try omega)) ?_ ?_
 ·omega
 rintro k hk
 have hb := lens_le ls k
 simp only [↓sx0, sxE, encs, sevalprocAttr]
 refine BrW.dec (fun hlt => ?_) (fun hlt => ?_)
 ·simp only [↓sx0, sxE, encs, sevalprocAttr]
  have hk' : k < ls.length := by omega
  have hb2 := lens_le ls (k + 1)
  rw [lens_take hk', List.length_append] at hb2
  refine IxW.nat hk' ?_
  simp only [↓sx0, sxE, encs, sevalprocAttr]
  (with_reducible refine Vc.go ?_ fun _ => ?_); focus (first | omega | (simp only [InK]; omega) | (simp [InK]; done) | (simp [InK]; omega))
  simp only [↓sx0, sxE, encs, sevalprocAttr]
  refine BrW.no (by omega) ?_
  simp only [↓sx0, sxE, encs, sevalprocAttr]
  (with_reducible refine Vc.go ?_ fun _ => ?_); focus (first | omega | (simp only [InK]; omega) | (simp [InK]; done) | (simp [InK]; omega))
  simp only [↓sx0, sxE, encs, sevalprocAttr]
  refine ⟨k + 1, StLe.auto (by simp only [sx2, encs, sxR, sevalprocAttr] <;> (try simp [lens_take hk', encs]) <;> (try omega)), ?_, ?_⟩
  ·omega
  ·omega
 ·simp only [↓sx0, sxE, encs, sevalprocAttr]
  have hke : k = ls.length := by omega
  subst hke
  rw [List.take_length]
  refine CallI.ctr (grow_s ls.flatten.length hl) (by simp only [sx3, encs, sxR, sevalprocAttr] <;> (try simp) <;> (try rfl)) ?_
  rintro _ rfl
  simp only [↓sx0, sxE, encs, sevalprocAttr]
  refine LoopW.comp [6, 25, 26, 27] (by simp only [sx2, encs, sxR, sevalprocAttr] <;> (try simp) <;> (try omega)) ?_
  simp only [sx2, sxR, sevalprocAttr]
  refine LoopW.up Tok (fun k : Nat => [(27, (.v (.int .i64 k)))]) (fun k => []) (fun k => [(0, (ls.take k).flatten.map eL)]) (fun k => []) (fun k => k ≤ ls.length) (fun k => ls.length - k) (0) (by simp only [sx2, encs, sxR, sevalprocAttr] <;> (try simp) <;> (try omega)) ?_ ?_
  ·omega
  rintro k hk
  have hb := lens_le ls k
  simp only [↓sx0, sxE, encs, sevalprocAttr]
  refine BrW.dec (fun hlt => ?_) (fun hlt => ?_)
  ·simp only [↓sx0, sxE, encs, sevalprocAttr]
   have hk' : k < ls.length := by omega
   have hb2 := lens_le ls (k + 1)
   rw [lens_take hk', List.length_append] at hb2
   refine IxW.nat hk' ?_
   simp only [↓sx0, sxE, encs, sevalprocAttr]
   (with_reducible refine Vc.go ?_ fun _ => ?_); focus (first | omega | (simp only [InK]; omega) | (simp [InK]; done) | (simp [InK]; omega))
   simp only [↓sx0, sxE, encs, sevalprocAttr]
   (with_reducible refine Vc.go ?_ fun _ => ?_); focus (first | omega | (simp only [InK]; omega) | (simp [InK]; done) | (simp [InK]; omega))
   simp only [↓sx0, sxE, encs, sevalprocAttr]
   refine ⟨k + 1, StLe.auto (by simp only [sx2, encs, sxR, sevalprocAttr] <;> (try simp [lens_take hk', encs]) <;> (try omega)), ?_, ?_⟩
   ·omega
   ·omega
  ·simp only [↓sx0, sxE, encs, sevalprocAttr]
   have hke : k = ls.length := by omega
   subst hke
   rw [List.take_length]
   exact EndW.r [some 0] (by simp) (by simp only [sx4, sxF, encs, kpLL_map, sxR, sevalprocAttr] <;> simp [kpLL_map, encs, kpL, kpD]) (by simp only [sx4, sxF, encs, kpLL_map, sxR, sevalprocAttr] <;> simp [kpLL_map, encs, kpL, kpD]) (by simp only [sx4, sxF, encs, kpLL_map, sxR, sevalprocAttr] <;> simp [kpLL_map, encs, kpL, kpD]) (by simp only [sx4, sxF, encs, kpLL_map, sxR, sevalprocAttr] <;> simp [kpLL_map, encs, kpL, kpD])
end Go.Proofs.YtgiegokdcmkfeaaGreatDoor
/-
 Chapter 6, walks: stacks turned.
-/
namespace Go.Proofs.YtgiegokdcmkfeaaGreatDoor
open Go Go.Vx
set_option maxRecDepth 20000
def flip (rnd : Bool) (l : Leaf) : Leaf := ⟨l.col, l.row, 1 - l.over, if rnd then 1 - l.round else l.round⟩
def rnd1 (l : Leaf) : Leaf := ⟨l.col, l.row, l.over, 1 - l.round⟩
def ovr1 (l : Leaf) : Leaf := ⟨l.col, l.row, 1 - l.over, l.round⟩
/-- turns are turns. -/
def Fine (l : List Leaf) : Prop := ∀ x ∈ l, (0 ≤ x.over ∧ x.over ≤ 1) ∧ 0 ≤ x.round ∧ x.round ≤ 1
/-- turned: a stack that is turned over, and round. -/
theorem turned_s (b : Bool) (l : List Leaf) (rnd : Bool) (hf : Fine l) (hl : l.length ≤ 1000000) :
  Ctr Tryz.prog 113 [.sl b 4 (l.map eL), (.v (.bool (rnd)))] (fun rr => rr = ⟨.row 0, [.own 79 4 ((l.reverse.map (flip rnd)).map eL)]⟩) := by
 refine Ctr.of (rs := [.tmp 4]) Tok false Tryz.func113 rfl rfl rfl rfl (by simp [ofDL]) (fun w0 kp => ?_)
 simp only [↓sx0, sxE, encs, sevalprocAttr]
 refine CallI.ctr (clone_s b (l.map eL) (by simp [kpLL_map, encs, kpL, kpD]) (by simpa using hl)) (by simp only [sx3, encs, sxR, sevalprocAttr] <;> (try simp) <;> (try rfl)) ?_
 rintro _ rfl
 simp only [↓sx0, sxE, encs, sevalprocAttr]
 refine CallI.inl (rs := []) Tok Tryz.func140 rfl rfl rfl rfl (by simp) (fun ρ σ μ fr lp => ?_)
 simp only [↓sx0, sxE, encs, sevalprocAttr]
 (with_reducible refine Vc.go ?_ fun _ => ?_); focus (first | omega | (simp only [InK]; omega) | (simp [InK]; done) | (simp [InK]; omega))
 simp only [↓sx0, sxE, encs, sevalprocAttr]
 refine LoopW.comp [0, 2, 3] (by simp only [sx2, encs, sxR, sevalprocAttr] <;> (try simp) <;> (try omega)) ?_
 simp only [sx2, sxR, sevalprocAttr]
 refine LoopW.up Tok (fun i : Nat => [(2, (.v (.int .i64 i))), (3, (.v (.int .i64 ((l.length : Int) - 1 - i))))]) (fun i => []) (fun i => [(0, (rv l i).map eL)]) (fun i => []) (fun i => 2 * i ≤ l.length) (fun i => l.length - i) (0) (by simp only [sx2, encs, sxR, sevalprocAttr] <;> (try simp [rv_zero, encs]) <;> (try omega)) ?_ ?_
 ·omega
 ·intro i hi
  simp only [↓sx0, sxE, encs, sevalprocAttr]
  refine BrW.dec (fun hlt => ?_) (fun hlt => ?_)
  ·simp only [↓sx0, sxE, encs, sevalprocAttr]
   have hj : i < l.length := by omega
   have hj2 : l.length - 1 - i < l.length := by omega
   have ej : ((l.length : Int) - 1 - i).toNat = l.length - 1 - i := by omega
   have g1 : (rv l i)[l.length - 1 - i]? = some l[l.length - 1 - i] := by rw [rv_at l i _ hj2 (by omega) (by omega), List.getElem?_eq_getElem hj2]
   have g2 : (rv l i)[i]? = some l[i] := by rw [rv_at l i _ hj (by omega) (by omega), List.getElem?_eq_getElem hj]
   have hst := rv_step l i (by omega)
   have h1 : ((rv l i).map eL).modify ((i : Int)).toNat (modE · 0 (eL l[l.length - 1 - i])) = ((rv l i).set i l[l.length - 1 - i]).map eL := by rw [Int.toNat_natCast]; exact modify_map g2 _ rfl
   have h2 : (((rv l i).set i l[l.length - 1 - i]).map eL).modify ((l.length : Int) - 1 - i).toNat (modE · 0 (eL l[i])) = (rv l (i + 1)).map eL := by
    rw [ej, ← hst]; exact modify_map (x := l[l.length - 1 - i]) (by rw [List.getElem?_set, if_neg (by omega)]; exact g1) _ rfl
   simp only [encs] at h1 h2
   refine DrawW.plan Tok mixed (.q 0 <| .q 1 <| .q 2 <| .q 3 <| .q 4 <| .q 5 <| .q 6 <| .q 7 <| .q 8 <| .q 9 <| .q 10 <| .q 11 <| .q 12 <| .e 13 [] <| .q 14 <| .e 15 [] <| .done) (by kernel_rfl) (by kernel_rfl) ?_
   simp only [↓sx0, sxE, encs, sevalprocAttr]
   (with_reducible refine Vc.go ?_ fun _ => ?_); focus (first | omega | (simp only [InK]; omega) | (simp [rv_length, InK]; done) | (simp [rv_length, InK]; omega))
   simp only [↓sx0, sxE, encs, sevalprocAttr]
   refine IxW.map l[l.length - 1 - i] (by omega) (by rw [ej]; exact g1) ?_
   simp only [↓sx0, sxE, encs, sevalprocAttr]
   (with_reducible refine Vc.go ?_ fun _ => ?_); focus (first | omega | (simp only [InK]; omega) | (simp [rv_length, InK]; done) | (simp [rv_length, InK]; omega))
   simp only [↓sx0, sxE, encs, sevalprocAttr]
   refine IxW.map l[i] (by omega) (by simpa using g2) ?_
   simp only [↓sx0, sxE, encs, sevalprocAttr]
   (with_reducible refine Vc.go ?_ fun _ => ?_); focus (first | omega | (simp only [InK]; omega) | (simp [rv_length, InK]; done) | (simp [rv_length, InK]; omega))
   simp only [↓sx0, sxE, encs, sevalprocAttr]
   (with_reducible refine Vc.go ?_ fun _ => ?_); focus (first | omega | (simp only [InK]; omega) | (simp [rv_length, InK]; done) | (simp [rv_length, InK]; omega))
   simp only [↓sx0, sxE, encs, sevalprocAttr]
   (with_reducible refine Vc.go ?_ fun _ => ?_); focus (first | omega | (simp only [InK]; omega) | (simp [rv_length, InK]; done) | (simp [rv_length, InK]; omega))
   simp only [↓sx0, sxE, encs, sevalprocAttr]
   (with_reducible refine Vc.go ?_ fun _ => ?_); focus (first | omega | (simp only [InK]; omega) | (simp [rv_length, InK]; done) | (simp [rv_length, InK]; omega))
   simp only [↓sx0, sxE, encs, sevalprocAttr]
   (with_reducible refine Vc.go ?_ fun _ => ?_); focus (first | omega | (simp only [InK]; omega) | (simp [InK]; done) | (simp [InK]; omega))
   simp only [↓sx0, sxE, encs, sevalprocAttr]
   (with_reducible refine Vc.go ?_ fun _ => ?_); focus (first | omega | (simp only [InK]; omega) | (simp [InK]; done) | (simp [InK]; omega))
   simp only [↓sx0, sxE, encs, sevalprocAttr]
   rw [h1, h2]
   refine ⟨i + 1, StLe.auto (by simp only [sx2, encs, sxR, sevalprocAttr] <;> (try simp) <;> (try omega)), ?_, ?_⟩
   ·omega
   ·omega
  ·simp only [↓sx0, sxE, encs, sevalprocAttr]
   rw [rv_end l i (by omega) (by omega)]
   generalize hr : l.reverse = r
   have hrl : r.length = l.length := by rw [← hr]; simp
   have hfr : Fine r := fun x hx => hf x (by rw [← hr] at hx; simpa using hx)
   clear hi hlt
   skip
   refine LoopW.comp [1, 5, 12, 13] (by simp only [sx2, encs, sxR, sevalprocAttr] <;> (try simp) <;> (try omega)) ?_
   simp only [sx2, sxR, sevalprocAttr]
   refine LoopW.up Tok (fun k : Nat => [(13, (.v (.int .i64 k)))]) (fun k => []) (fun k => [(0, (chg (flip rnd) r k).map eL)]) (fun k => []) (fun k => k ≤ r.length) (fun k => r.length - k) (0) (by simp only [sx2, encs, sxR, sevalprocAttr] <;> (try simp [chg_zero, encs]) <;> (try omega)) ?_ ?_
   ·omega
   intro k hk
   simp only [↓sx0, sxE, encs, sevalprocAttr]
   refine BrW.dec (fun hlt => ?_) (fun hlt => ?_)
   ·simp only [↓sx0, sxE, encs, sevalprocAttr]
    have hk' : k < r.length := by omega
    have hg := chg_at (flip rnd) r k hk'
    obtain ⟨⟨f1, f2⟩, f3, f4⟩ := hfr r[k] (List.getElem_mem hk')
    have hst := chg_step (flip rnd) r k hk'
    have h1 : ((chg (flip rnd) r k).map eL).modify ((k : Int)).toNat (modE · 2 [.v (.int .i64 (1 - r[k].over))]) = ((chg (flip rnd) r k).set k (ovr1 r[k])).map eL := by rw [Int.toNat_natCast]; exact modify_map hg _ rfl
    have hg2 : ((chg (flip rnd) r k).set k (ovr1 r[k]))[k]? = some (ovr1 r[k]) := List.getElem?_set_self (by simpa using hk')
    have h2 : (((chg (flip rnd) r k).set k (ovr1 r[k])).map eL).modify ((k : Int)).toNat (modE · 3 [.v (.int .i64 (1 - r[k].round))]) = ((chg (flip rnd) r k).set k (rnd1 (ovr1 r[k]))).map eL := by rw [Int.toNat_natCast, modify_map hg2 (rnd1 (ovr1 r[k])) rfl, List.set_set]
    (with_reducible refine Vc.go ?_ fun _ => ?_); focus (first | omega | (simp only [InK]; omega) | (simp [chg_length, InK]; done) | (simp [chg_length, InK]; omega))
    simp only [↓sx0, sxE, encs, sevalprocAttr]
    refine IxW.map r[k] (by omega) (by simpa using hg) ?_
    simp only [↓sx0, sxE, encs, sevalprocAttr]
    (with_reducible refine Vc.go ?_ fun _ => ?_); focus (first | omega | (simp only [InK]; omega) | (simp [InK]; done) | (simp [InK]; omega))
    simp only [↓sx0, sxE, encs, sevalprocAttr]
    (with_reducible refine Vc.go ?_ fun _ => ?_); focus (first | omega | (simp only [InK]; omega) | (simp [chg_length, InK]; done) | (simp [chg_length, InK]; omega))
    simp only [↓sx0, sxE, encs, sevalprocAttr]
    (with_reducible refine Vc.go ?_ fun _ => ?_); focus (first | omega | (simp only [InK]; omega) | (simp [chg_length, InK]; done) | (simp [chg_length, InK]; omega))
    simp only [↓sx0, sxE, encs, sevalprocAttr]
    rw [h1]
    refine BrW.of (fun hb => ?_) (fun hb => ?_)
    ·have e : rnd1 (ovr1 r[k]) = flip rnd r[k] := by simp [flip, rnd1, ovr1, hb]
     simp only [↓sx0, sxE, encs, sevalprocAttr]
     (with_reducible refine Vc.go ?_ fun _ => ?_); focus (first | omega | (simp only [InK]; omega) | (simp [chg_length, InK]; done) | (simp [chg_length, InK]; omega))
     simp only [↓sx0, sxE, encs, sevalprocAttr]
     refine IxW.map (ovr1 r[k]) (by omega) (by simpa using hg2) ?_
     simp only [↓sx0, sxE, encs, sevalprocAttr]
     (with_reducible refine Vc.go ?_ fun _ => ?_); focus (first | omega | (simp only [InK]; omega) | (simp [ovr1, InK]; done) | (simp [ovr1, InK]; omega))
     simp only [↓sx0, sxE, encs, sevalprocAttr]
     (with_reducible refine Vc.go ?_ fun _ => ?_); focus (first | omega | (simp only [InK]; omega) | (simp [chg_length, InK]; done) | (simp [chg_length, InK]; omega))
     simp only [↓sx0, sxE, encs, sevalprocAttr]
     (with_reducible refine Vc.go ?_ fun _ => ?_); focus (first | omega | (simp only [InK]; omega) | (simp [chg_length, InK]; done) | (simp [chg_length, InK]; omega))
     simp only [↓sx0, sxE, encs, sevalprocAttr]
     (with_reducible refine Vc.go ?_ fun _ => ?_); focus (first | omega | (simp only [InK]; omega) | (simp [InK]; done) | (simp [InK]; omega))
     simp only [↓sx0, sxE, encs, sevalprocAttr]
     rw [show (ovr1 r[k]).round = r[k].round from rfl, h2, e, hst]
     refine ⟨k + 1, StLe.auto (by simp only [sx2, encs, sxR, sevalprocAttr] <;> (try simp) <;> (try omega)), ?_, ?_⟩
     ·omega
     ·omega
    ·have e : ovr1 r[k] = flip rnd r[k] := by simp [flip, ovr1, hb]
     rw [e, hst]
     simp only [↓sx0, sxE, encs, sevalprocAttr]
     (with_reducible refine Vc.go ?_ fun _ => ?_); focus (first | omega | (simp only [InK]; omega) | (simp [InK]; done) | (simp [InK]; omega))
     simp only [↓sx0, sxE, encs, sevalprocAttr]
     refine ⟨k + 1, StLe.auto (by simp only [sx2, encs, sxR, sevalprocAttr] <;> (try simp) <;> (try omega)), ?_, ?_⟩
     ·omega
     ·omega
   ·simp only [↓sx0, sxE, encs, sevalprocAttr]
    have hke : k = r.length := by omega
    subst hke
    rw [chg_end]
    exact EndW.r [some 0] (by simp) (by simp only [sx4, sxF, encs, kpLL_map, sxR, sevalprocAttr] <;> simp [kpL, kpD]) (by simp only [sx4, sxF, encs, kpLL_map, sxR, sevalprocAttr] <;> simp [kpL, kpD]) (by simp only [sx4, sxF, encs, kpLL_map, sxR, sevalprocAttr] <;> simp [kpL, kpD]) (by simp only [sx4, sxF, encs, kpLL_map, sxR, sevalprocAttr] <;> simp [kpL, kpD])
end Go.Proofs.YtgiegokdcmkfeaaGreatDoor
/-
 Chapter 6, walks: piles turned over and round.
-/
namespace Go.Proofs.YtgiegokdcmkfeaaGreatDoor
open Go Go.Vx
set_option maxRecDepth 20000
theorem stack_s (b : Bool) (cols rows c r : Int) (ls : List (List Leaf)) (n : Nat) (l : List Leaf) (h : ls[n]? = some l) (hn : r * cols + c = n) (h1 : 0 ≤ r) (h2 : r ≤ 1000) (h3 : 0 ≤ cols) (h4 : cols ≤ 1000) (h5 : 0 ≤ c) (h6 : c ≤ 1000) :
  Ctr Tryz.prog 114 [.agg [(.v (.int .i64 cols)), (.v (.int .i64 rows)), .sl b 1 (ls.map eK)], (.v (.int .i64 c)), (.v (.int .i64 r))] (fun rr => rr = ⟨.sl true 4 (l.map eL), []⟩) := by
 have m1 : r * cols ≤ 1000 * 1000 := Int.mul_le_mul h2 h4 h3 (by omega)
 have m2 : 0 ≤ r * cols := Int.mul_nonneg h1 h3
 refine Ctr.of (rs := [.tmp 6]) Tok true Tryz.func114 rfl rfl rfl rfl (by simp [ofDL]) (fun w0 kp => ?_)
 simp only [↓sx0, sxE, encs, sevalprocAttr]
 (with_reducible refine Vc.go ?_ fun _ => ?_); focus (first | omega | (simp only [InK]; omega) | (simp [InK]; done) | (simp [InK]; omega))
 simp only [↓sx0, sxE, encs, sevalprocAttr]
 (with_reducible refine Vc.go ?_ fun _ => ?_); focus (first | omega | (simp only [InK]; omega) | (simp [InK]; done) | (simp [InK]; omega))
 simp only [↓sx0, sxE, encs, sevalprocAttr]
 refine IxW.map l (by omega) (by rw [hn]; simpa using h) ?_
 simp only [↓sx0, sxE, encs, sevalprocAttr]
 refine EndW.fn ?_ ?_ <;> simp only [sx4, encs, kpLL_map, sxR, sevalprocAttr] <;> (try simp [kpL, kpD]) <;> (try omega)
theorem over1_s (b b2 : Bool) (cols rows c r : Nat) (ls : List (List Leaf)) (l : List Leaf) (h : ls[r * cols + (cols - 1 - c)]? = some l) (h2 : r ≤ 1000) (h4 : cols ≤ 1000) (h5 : c < cols) (hf : Fine l) (hl : l.length ≤ 1000000) :
  Ctr Tryz.prog 112 [(.v (.int .i64 c)), (.v (.int .i64 r)), .pt b2 [.v (.int .i64 cols), .v (.int .i64 rows), .sl b 1 (ls.map eK)]] (fun rr => rr = ⟨.row 0, [.own 79 4 ((l.reverse.map (flip false)).map eL)]⟩) := by
 refine Ctr.of (rs := [.tmp 5]) Tok false Tryz.func112 rfl rfl rfl rfl (by simp [ofDL]) (fun w0 kp => ?_)
 simp only [↓sx0, sxE, encs, sevalprocAttr]
 (with_reducible refine Vc.go ?_ fun _ => ?_); focus (first | omega | (simp only [InK]; omega) | (simp [InK]; done) | (simp [InK]; omega))
 simp only [↓sx0, sxE, encs, sevalprocAttr]
 (with_reducible refine Vc.go ?_ fun _ => ?_); focus (first | omega | (simp only [InK]; omega) | (simp [InK]; done) | (simp [InK]; omega))
 simp only [↓sx0, sxE, encs, sevalprocAttr]
 refine CallI.fn (stack_s b cols rows ((cols : Int) - 1 - c) r ls _ l h (by push_cast; omega) (by omega) (by omega) (by omega) (by omega) (by omega) (by omega)) (by simp only [sx3, encs, sxR, sevalprocAttr] <;> (try simp) <;> (try rfl)) ?_
 simp only [↓sx0, sxE, encs, sevalprocAttr]
 refine CallI.ctr (turned_s true l false hf hl) (by simp only [sx3, encs, sxR, sevalprocAttr] <;> (try simp) <;> (try rfl)) ?_
 rintro _ rfl
 simp only [↓sx0, sxE, encs, sevalprocAttr]
 exact EndW.r [some 0] (by simp) (by simp only [sx4, sxF, encs, kpLL_map, sxR, sevalprocAttr] <;> simp [kpL, kpD]) (by simp only [sx4, sxF, encs, kpLL_map, sxR, sevalprocAttr] <;> simp [kpL, kpD]) (by simp only [sx4, sxF, encs, kpLL_map, sxR, sevalprocAttr] <;> simp [kpL, kpD]) (by simp only [sx4, sxF, encs, kpLL_map, sxR, sevalprocAttr] <;> simp [kpL, kpD])
theorem round1_s (b b2 : Bool) (cols rows c r : Nat) (ls : List (List Leaf)) (l : List Leaf) (h : ls[(rows - 1 - r) * cols + (cols - 1 - c)]? = some l) (h2 : rows ≤ 1000) (h4 : cols ≤ 1000) (h5 : c < cols) (h6 : r < rows) (hf : Fine l) (hl : l.length ≤ 1000000) :
  Ctr Tryz.prog 115 [(.v (.int .i64 c)), (.v (.int .i64 r)), .pt b2 [.v (.int .i64 cols), .v (.int .i64 rows), .sl b 1 (ls.map eK)]] (fun rr => rr = ⟨.row 0, [.own 79 4 ((l.map rnd1).map eL)]⟩) := by
 refine Ctr.of (rs := [.tmp 5]) Tok false Tryz.func115 rfl rfl rfl rfl (by simp [ofDL]) (fun w0 kp => ?_)
 simp only [↓sx0, sxE, encs, sevalprocAttr]
 (with_reducible refine Vc.go ?_ fun _ => ?_); focus (first | omega | (simp only [InK]; omega) | (simp [InK]; done) | (simp [InK]; omega))
 simp only [↓sx0, sxE, encs, sevalprocAttr]
 (with_reducible refine Vc.go ?_ fun _ => ?_); focus (first | omega | (simp only [InK]; omega) | (simp [InK]; done) | (simp [InK]; omega))
 simp only [↓sx0, sxE, encs, sevalprocAttr]
 (with_reducible refine Vc.go ?_ fun _ => ?_); focus (first | omega | (simp only [InK]; omega) | (simp [InK]; done) | (simp [InK]; omega))
 simp only [↓sx0, sxE, encs, sevalprocAttr]
 (with_reducible refine Vc.go ?_ fun _ => ?_); focus (first | omega | (simp only [InK]; omega) | (simp [InK]; done) | (simp [InK]; omega))
 simp only [↓sx0, sxE, encs, sevalprocAttr]
 refine CallI.fn (stack_s b cols rows ((cols : Int) - 1 - c) ((rows : Int) - 1 - r) ls _ l h (by rw [Int.natCast_add, Int.natCast_mul, show ((rows - 1 - r : Nat) : Int) = (rows : Int) - 1 - r by omega, show ((cols - 1 - c : Nat) : Int) = (cols : Int) - 1 - c by omega]) (by omega) (by omega) (by omega) (by omega) (by omega) (by omega)) (by simp only [sx3, encs, sxR, sevalprocAttr] <;> (try simp) <;> (try rfl)) ?_
 simp only [↓sx0, sxE, encs, sevalprocAttr]
 refine CallI.ctr (clone_s true (l.map eL) (by simp [kpLL_map, encs, kpL, kpD]) (by simpa using hl)) (by simp only [sx3, encs, sxR, sevalprocAttr] <;> (try simp) <;> (try rfl)) ?_
 rintro _ rfl
 simp only [↓sx0, sxE, encs, sevalprocAttr]
 refine LoopW.comp [6, 22, 23] (by simp only [sx2, encs, sxR, sevalprocAttr] <;> (try simp) <;> (try omega)) ?_
 simp only [sx2, sxR, sevalprocAttr]
 refine LoopW.up Tok (fun k : Nat => [(23, (.v (.int .i64 k)))]) (fun k => []) (fun k => [(0, (chg rnd1 l k).map eL)]) (fun k => []) (fun k => k ≤ l.length) (fun k => l.length - k) (0) (by simp only [sx2, encs, sxR, sevalprocAttr] <;> (try simp [chg_zero, encs]) <;> (try omega)) ?_ ?_
 ·omega
 intro k hk
 simp only [↓sx0, sxE, encs, sevalprocAttr]
 refine BrW.dec (fun hlt => ?_) (fun hlt => ?_)
 ·simp only [↓sx0, sxE, encs, sevalprocAttr]
  have hk' : k < l.length := by omega
  have hg := chg_at rnd1 l k hk'
  obtain ⟨⟨f1, f2⟩, f3, f4⟩ := hf l[k] (List.getElem_mem hk')
  have h1 : ((chg rnd1 l k).map eL).modify ((k : Int)).toNat (modE · 3 [.v (.int .i64 (1 - l[k].round))]) = (chg rnd1 l (k + 1)).map eL := by rw [Int.toNat_natCast, ← chg_step rnd1 l k hk']; exact modify_map hg _ rfl
  (with_reducible refine Vc.go ?_ fun _ => ?_); focus (first | omega | (simp only [InK]; omega) | (simp [chg_length, InK]; done) | (simp [chg_length, InK]; omega))
  simp only [↓sx0, sxE, encs, sevalprocAttr]
  refine IxW.map l[k] (by omega) (by simpa using hg) ?_
  simp only [↓sx0, sxE, encs, sevalprocAttr]
  (with_reducible refine Vc.go ?_ fun _ => ?_); focus (first | omega | (simp only [InK]; omega) | (simp [InK]; done) | (simp [InK]; omega))
  simp only [↓sx0, sxE, encs, sevalprocAttr]
  (with_reducible refine Vc.go ?_ fun _ => ?_); focus (first | omega | (simp only [InK]; omega) | (simp [chg_length, InK]; done) | (simp [chg_length, InK]; omega))
  simp only [↓sx0, sxE, encs, sevalprocAttr]
  (with_reducible refine Vc.go ?_ fun _ => ?_); focus (first | omega | (simp only [InK]; omega) | (simp [chg_length, InK]; done) | (simp [chg_length, InK]; omega))
  simp only [↓sx0, sxE, encs, sevalprocAttr]
  (with_reducible refine Vc.go ?_ fun _ => ?_); focus (first | omega | (simp only [InK]; omega) | (simp [InK]; done) | (simp [InK]; omega))
  simp only [↓sx0, sxE, encs, sevalprocAttr]
  rw [h1]
  refine ⟨k + 1, StLe.auto (by simp only [sx2, encs, sxR, sevalprocAttr] <;> (try simp) <;> (try omega)), ?_, ?_⟩
  ·omega
  ·omega
 ·simp only [↓sx0, sxE, encs, sevalprocAttr]
  have hke : k = l.length := by omega
  subst hke
  rw [chg_end]
  exact EndW.r [some 0] (by simp) (by simp only [sx4, sxF, encs, kpLL_map, sxR, sevalprocAttr] <;> simp [kpL, kpD]) (by simp only [sx4, sxF, encs, kpLL_map, sxR, sevalprocAttr] <;> simp [kpL, kpD]) (by simp only [sx4, sxF, encs, kpLL_map, sxR, sevalprocAttr] <;> simp [kpL, kpD]) (by simp only [sx4, sxF, encs, kpLL_map, sxR, sevalprocAttr] <;> simp [kpL, kpD])
/-- moved: a pile made place by place. -/
theorem moved_s (f : Nat) (caps : List SV) (hren : ∀ γ, renL γ caps = caps) (hle : ∀ β γ, leL β γ caps caps = True) (hlend : ∀ rw bx, argOk rw bx caps caps = True) (cols rows : Nat) (g : Nat → Nat → List Leaf) (hof : ∀ c r, c < cols → r < rows → Ctr Tryz.prog f ([(.v (.int .i64 c)), (.v (.int .i64 r))] ++ caps) (fun rr => rr = ⟨.row 0, [.own 79 4 ((g c r).map eL)]⟩)) (hc : cols ≤ 1000) (hr : rows ≤ 1000) :
  Ctr Tryz.prog 111 [(.v (.int .i64 cols)), (.v (.int .i64 rows)), .clo f caps] (fun rr => rr = ⟨.agg [(.v (.int .i64 cols)), (.v (.int .i64 rows)), .sl true 1 ((grid cols rows g).map eK)], []⟩) := by
 have hsz : rows * cols ≤ 1000 * 1000 := Nat.mul_le_mul hr hc
 have encs := And.intro encs (And.intro hren (And.intro hle hlend))
 refine Ctr.of (rs := [.cell 6 143]) Tok true Tryz.func111 rfl rfl rfl rfl (by simp [ofDL]) (fun w0 kp => ?_)
 simp only [↓sx0, sxE, encs, sevalprocAttr]
 refine LoopW.comp [0, 2, 6, 7, 13, 14] (by simp only [sx2, encs, sxR, sevalprocAttr] <;> (try simp) <;> (try omega)) ?_
 simp only [sx2, sxR, sevalprocAttr]
 refine LoopW.up Tok (fun r : Nat => [(14, (.v (.int .i64 r)))]) (fun r => [(1, [(.v (.int .i64 cols)), (.v (.int .i64 rows)), .row 0])]) (fun r => []) (fun r => [.own 75 1 ((grid cols r g).map eK)]) (fun r => r ≤ rows) (fun r => rows - r) (0) (by simp only [sx2, encs, sxR, sevalprocAttr] <;> (try simp) <;> (try omega)) ?_ ?_
 ·omega
 rintro r hr1
 simp only [↓sx0, sxE, encs, sevalprocAttr]
 refine BrW.dec (fun hlt => ?_) (fun hlt => ?_)
 ·simp only [↓sx0, sxE, encs, sevalprocAttr]
  have hr2 : r < rows := by omega
  refine LoopW.comp [0, 2, 6, 7, 8, 13, 14, 17, 18] (by simp only [sx2, encs, sxR, sevalprocAttr] <;> (try simp) <;> (try omega)) ?_
  simp only [sx2, sxR, sevalprocAttr]
  refine LoopW.up Tok (fun k : Nat => [(18, (.v (.int .i64 k)))]) (fun k => []) (fun k => [(0, ((grid cols r g) ++ gridRow k g r).map eK)]) (fun k => []) (fun k => k ≤ cols) (fun k => cols - k) (0) (by simp only [sx2, encs, sxR, sevalprocAttr] <;> (try simp) <;> (try omega)) ?_ ?_
  ·omega
  rintro k hk1
  have hlen : r * cols + k ≤ 1000000 := by
   have h1 : (r + 1) * cols ≤ rows * cols := Nat.mul_le_mul_right _ hr2
   rw [Nat.succ_mul] at h1
   omega
  simp only [↓sx0, sxE, encs, sevalprocAttr]
  refine BrW.dec (fun hlt2 => ?_) (fun hlt2 => ?_)
  ·simp only [↓sx0, sxE, encs, sevalprocAttr]
   refine DrawW.plan Tok mixed (.q 0 <| .q 1 <| .q 2 <| .q 3 <| .q 4 <| .e 5 [1] <| .e 6 [1] <| .e 7 [] <| .q 8 <| .e 9 [] <| .done) (by kernel_rfl) (by kernel_rfl) ?_
   simp only [↓sx0, sxE, encs, sevalprocAttr]
   refine CallI.ctr (hof k r (by omega) hr2) (by simp only [sx3, encs, sxR, sevalprocAttr] <;> (try simp) <;> (try rfl)) ?_
   rintro _ rfl
   simp only [↓sx0, sxE, encs, sevalprocAttr]
   (with_reducible refine Vc.go ?_ fun _ => ?_); focus (first | omega | (simp only [InK]; omega) | (simp [grid_length, gridRow_length, InK]; done) | (simp [grid_length, gridRow_length, InK]; omega))
   simp only [↓sx0, sxE, encs, sevalprocAttr]
   (with_reducible refine Vc.go ?_ fun _ => ?_); focus (first | omega | (simp only [InK]; omega) | (simp [InK]; done) | (simp [InK]; omega))
   simp only [↓sx0, sxE, encs, sevalprocAttr]
   refine ⟨k + 1, StLe.auto (by simp only [sx2, encs, sxR, sevalprocAttr] <;> (try simp [gridRow_succ, encs]) <;> (try omega)), ?_, ?_⟩
   ·omega
   ·omega
  ·simp only [↓sx0, sxE, encs, sevalprocAttr]
   have : k = cols := by omega
   subst this
   (with_reducible refine Vc.go ?_ fun _ => ?_); focus (first | omega | (simp only [InK]; omega) | (simp [InK]; done) | (simp [InK]; omega))
   simp only [↓sx0, sxE, encs, sevalprocAttr]
   refine ⟨r + 1, StLe.auto (by simp only [sx2, encs, sxR, sevalprocAttr] <;> (try simp [grid_succ, encs]) <;> (try omega)), ?_, ?_⟩
   ·omega
   ·omega
 ·simp only [↓sx0, sxE, encs, sevalprocAttr]
  have : r = rows := by omega
  subst this
  refine EndW.fn ?_ ?_ <;> simp only [sx4, encs, kpLL_map, sxR, sevalprocAttr] <;> (try simp) <;> (try omega)
end Go.Proofs.YtgiegokdcmkfeaaGreatDoor
/-
 Chapter 6, walks: piles laid over.
-/
namespace Go.Proofs.YtgiegokdcmkfeaaGreatDoor
open Go Go.Vx
set_option maxRecDepth 20000
/-- all stacks are fine, and not too high. -/
def FineP (ls : List (List Leaf)) : Prop := ∀ l ∈ ls, Fine l ∧ l.length ≤ 400000
def stkAt (ls : List (List Leaf)) (i : Nat) : List Leaf := ls.getD i []
theorem stkAt_get {ls : List (List Leaf)} {i : Nat} (h : i < ls.length) : ls[i]? = some (stkAt ls i) := by simp [stkAt, List.getD_eq_getElem?_getD, h]
theorem stkAt_fine {ls : List (List Leaf)} (hf : FineP ls) (i : Nat) : Fine (stkAt ls i) ∧ (stkAt ls i).length ≤ 400000 := by
 by_cases h : i < ls.length
 ·exact hf _ (List.mem_of_getElem? (stkAt_get h))
 ·have : stkAt ls i = [] := by simp [stkAt, List.getD_eq_getElem?_getD, List.getElem?_eq_none (Nat.le_of_not_lt h)]
  rw [this]; exact ⟨fun x hx => by simp at hx, by simp⟩
theorem cell_lt {rows cols r c : Nat} (hr : r < rows) (hc : c < cols) : r * cols + c < rows * cols := by
 have : (r + 1) * cols ≤ rows * cols := Nat.mul_le_mul_right _ hr
 rw [Nat.succ_mul] at this; omega
def overG (cols rows : Nat) (ls : List (List Leaf)) : List (List Leaf) := grid cols rows fun c r => (stkAt ls (r * cols + (cols - 1 - c))).reverse.map (flip false)
def roundG (cols rows : Nat) (ls : List (List Leaf)) : List (List Leaf) := grid cols rows fun c r => (stkAt ls ((rows - 1 - r) * cols + (cols - 1 - c))).map rnd1
theorem over_s (b : Bool) (ls : List (List Leaf)) (hf : FineP ls) (cols rows : Nat) (hc : cols ≤ 1000) (hr : rows ≤ 1000) (hn : ls.length = rows * cols) :
  Ctr Tryz.prog 94 [.agg [(.v (.int .i64 cols)), (.v (.int .i64 rows)), .sl b 1 (ls.map eK)]] (fun rr => rr = ⟨.agg [(.v (.int .i64 cols)), (.v (.int .i64 rows)), .sl true 1 ((overG cols rows ls).map eK)], []⟩) := by
 refine Ctr.of (rs := [.cell 2 143]) Tok true Tryz.func94 rfl rfl rfl rfl (by simp [ofDL]) (fun w0 kp => ?_)
 simp only [↓sx0, sxE, encs, sevalprocAttr]
 refine CallI.fn (moved_s 112 [.pt false [.v (.int .i64 cols), .v (.int .i64 rows), .sl b 1 (ls.map eK)]] (by intro; rfl) (by intro β γ; simp [leL, leV]) (by intro rw bx; simp [argOk, lendA, lendO, argO, ofD, leV]) cols rows (fun c r => (stkAt ls (r * cols + (cols - 1 - c))).reverse.map (flip false)) (fun c r h1 h2 => over1_s b false cols rows c r ls _ (stkAt_get (by rw [hn]; exact cell_lt h2 (by omega))) (by omega) hc h1 (stkAt_fine hf _).1 (by have := (stkAt_fine hf (r * cols + (cols - 1 - c))).2; omega)) hc hr) (by simp only [sx3, encs, sxR, sevalprocAttr] <;> (try simp) <;> (try rfl)) ?_
 simp only [↓sx0, sxE, encs, sevalprocAttr]
 refine EndW.fn ?_ ?_ <;> simp only [sx4, encs, kpLL_map, sxR, sevalprocAttr] <;> (try simp [overG]) <;> (try omega)
theorem round_s (b : Bool) (ls : List (List Leaf)) (hf : FineP ls) (cols rows : Nat) (hc : cols ≤ 1000) (hr : rows ≤ 1000) (hn : ls.length = rows * cols) :
  Ctr Tryz.prog 95 [.agg [(.v (.int .i64 cols)), (.v (.int .i64 rows)), .sl b 1 (ls.map eK)]] (fun rr => rr = ⟨.agg [(.v (.int .i64 cols)), (.v (.int .i64 rows)), .sl true 1 ((roundG cols rows ls).map eK)], []⟩) := by
 refine Ctr.of (rs := [.cell 2 143]) Tok true Tryz.func95 rfl rfl rfl rfl (by simp [ofDL]) (fun w0 kp => ?_)
 simp only [↓sx0, sxE, encs, sevalprocAttr]
 refine CallI.fn (moved_s 115 [.pt false [.v (.int .i64 cols), .v (.int .i64 rows), .sl b 1 (ls.map eK)]] (by intro; rfl) (by intro β γ; simp [leL, leV]) (by intro rw bx; simp [argOk, lendA, lendO, argO, ofD, leV]) cols rows (fun c r => (stkAt ls ((rows - 1 - r) * cols + (cols - 1 - c))).map rnd1) (fun c r h1 h2 => round1_s b false cols rows c r ls _ (stkAt_get (by rw [hn]; exact cell_lt (by omega) (by omega))) (by omega) hc h1 h2 (stkAt_fine hf _).1 (by have := (stkAt_fine hf ((rows - 1 - r) * cols + (cols - 1 - c))).2; omega)) hc hr) (by simp only [sx3, encs, sxR, sevalprocAttr] <;> (try simp) <;> (try rfl)) ?_
 simp only [↓sx0, sxE, encs, sevalprocAttr]
 refine EndW.fn ?_ ?_ <;> simp only [sx4, encs, kpLL_map, sxR, sevalprocAttr] <;> (try simp [roundG]) <;> (try omega)
def getI (back rows : Bool) (side cols along across : Int) : Int :=
 if rows then (if back then side - 1 - along else along) * cols + across else across * cols + (if back then side - 1 - along else along)
/-- what the closures of laid know. -/
def capG (b back rows : Bool) (side cols rws : Int) (ls : List (List Leaf)) : List D :=
 [.pt false [.v (.bool back)], .pt false [.v (.int .i64 side)], .pt false [.v (.bool rows)], .pt false [.v (.int .i64 cols), .v (.int .i64 rws), .sl b 1 (ls.map eK)]]
theorem get_s (b back rows : Bool) (side cols rws along across : Int) (ls : List (List Leaf)) (n : Nat) (l : List Leaf) (h : ls[n]? = some l) (hn : getI back rows side cols along across = n) (h1 : 0 ≤ cols) (hc : cols ≤ 1000) (hsd : side ≤ 1000) (h2 : 0 ≤ along) (hal : along < side) (h3 : 0 ≤ across) (hac : across ≤ 1000) :
  Ctr Tryz.prog 117 ([(.v (.int .i64 along)), (.v (.int .i64 across))] ++ ofDL (capG b back rows side cols rws ls)) (fun rr => rr = ⟨.sl true 4 (l.map eL), []⟩) := by
 unfold capG
 unfold getI at hn
 cases back <;> cases rows <;> simp only [Bool.false_eq_true, if_false, if_true] at hn
 ·refine Ctr.of (rs := [.tmp 8]) Tok true Tryz.func117 rfl rfl rfl rfl (by simp [ofDL]) (fun w0 kp => ?_)
  simp only [↓sx0, sxE, encs, sevalprocAttr]
  refine CallI.fn (stack_s b cols rws along across ls n l h (by omega) (by omega) (by omega) (by omega) (by omega) (by omega) (by omega)) (by simp only [sx3, encs, sxR, sevalprocAttr] <;> (try simp) <;> (try rfl)) ?_
  simp only [↓sx0, sxE, encs, sevalprocAttr]
  refine EndW.fn ?_ ?_ <;> simp only [sx4, encs, kpLL_map, sxR, sevalprocAttr] <;> (try simp [kpL, kpD]) <;> (try omega)
 ·refine Ctr.of (rs := [.tmp 8]) Tok true Tryz.func117 rfl rfl rfl rfl (by simp [ofDL]) (fun w0 kp => ?_)
  simp only [↓sx0, sxE, encs, sevalprocAttr]
  refine CallI.fn (stack_s b cols rws across along ls n l h (by omega) (by omega) (by omega) (by omega) (by omega) (by omega) (by omega)) (by simp only [sx3, encs, sxR, sevalprocAttr] <;> (try simp) <;> (try rfl)) ?_
  simp only [↓sx0, sxE, encs, sevalprocAttr]
  refine EndW.fn ?_ ?_ <;> simp only [sx4, encs, kpLL_map, sxR, sevalprocAttr] <;> (try simp [kpL, kpD]) <;> (try omega)
 ·refine Ctr.of (rs := [.tmp 8]) Tok true Tryz.func117 rfl rfl rfl rfl (by simp [ofDL]) (fun w0 kp => ?_)
  simp only [↓sx0, sxE, encs, sevalprocAttr]
  repeat ((with_reducible refine Vc.go ?_ fun _ => ?_); (focus (first | omega | (simp only [InK]; omega) | (simp [InK]; done) | (simp [InK]; omega))); simp only [↓sx0, sxE, encs, sevalprocAttr])
  refine CallI.fn (stack_s b cols rws (side - 1 - along) across ls n l h (by omega) (by omega) (by omega) (by omega) (by omega) (by omega) (by omega)) (by simp only [sx3, encs, sxR, sevalprocAttr] <;> (try simp) <;> (try rfl)) ?_
  simp only [↓sx0, sxE, encs, sevalprocAttr]
  refine EndW.fn ?_ ?_ <;> simp only [sx4, encs, kpLL_map, sxR, sevalprocAttr] <;> (try simp [kpL, kpD]) <;> (try omega)
 ·refine Ctr.of (rs := [.tmp 8]) Tok true Tryz.func117 rfl rfl rfl rfl (by simp [ofDL]) (fun w0 kp => ?_)
  simp only [↓sx0, sxE, encs, sevalprocAttr]
  repeat ((with_reducible refine Vc.go ?_ fun _ => ?_); (focus (first | omega | (simp only [InK]; omega) | (simp [InK]; done) | (simp [InK]; omega))); simp only [↓sx0, sxE, encs, sevalprocAttr])
  refine CallI.fn (stack_s b cols rws across (side - 1 - along) ls n l h (by omega) (by omega) (by omega) (by omega) (by omega) (by omega) (by omega)) (by simp only [sx3, encs, sxR, sevalprocAttr] <;> (try simp) <;> (try rfl)) ?_
  simp only [↓sx0, sxE, encs, sevalprocAttr]
  refine EndW.fn ?_ ?_ <;> simp only [sx4, encs, kpLL_map, sxR, sevalprocAttr] <;> (try simp [kpL, kpD]) <;> (try omega)
end Go.Proofs.YtgiegokdcmkfeaaGreatDoor
/-
 Chapter 6, walks: piles laid over, and folds.
-/
namespace Go.Proofs.YtgiegokdcmkfeaaGreatDoor
open Go Go.Vx
set_option maxRecDepth 20000
def capP (b back rows : Bool) (first side cols rws : Int) (ls : List (List Leaf)) : List D :=
 [.pt false [.v (.bool back)], .pt false [.v (.int .i64 first)], .pt false [.clo 117 (capG b back rows side cols rws ls)], .pt false [.v (.int .i64 side)], .pt false [.v (.bool rows)]]
theorem put_s (b back rows : Bool) (first side cols rws along across a : Int) (ls : List (List Leaf)) (hf : FineP ls) (n : Nat) (lb res : List Leaf) (ha : a = if back then first - 1 - along else along) (hlb : ls[n]? = some lb) (hn : getI back rows side cols a across = n)
  (h1 : 0 ≤ cols) (hc : cols ≤ 1000) (hsd : side ≤ 1000) (h2 : 0 ≤ along) (hal : along < first) (hfs : first ≤ side) (h3 : 0 ≤ across) (hac : across ≤ 1000)
  (hres : if 2 * first - 1 - a < side then ∃ (m : Nat) (lf : List Leaf), ls[m]? = some lf ∧ getI back rows side cols (2 * first - 1 - a) across = m ∧ res = lf.reverse.map (flip rows) ++ lb else res = lb) :
  Ctr Tryz.prog 118 ([(.v (.int .i64 along)), (.v (.int .i64 across))] ++ ofDL (capP b back rows first side cols rws ls)) (fun rr => rr = ⟨.row 0, [.own 79 4 (res.map eL)]⟩) := by
 obtain ⟨hflb, hllb⟩ := hf lb (List.mem_of_getElem? hlb)
 have get1 := get_s b back rows side cols rws a across ls n lb hlb hn h1 hc hsd (by rw [ha]; split <;> omega) (by rw [ha]; split <;> omega) h3 hac
 have hcl : ∀ l : List Leaf, kpLL (l.map eL) := fun l => by simp [kpLL_map, encs, kpL, kpD]
 have main : ∀ lf : List Leaf, (2 * first - 1 - a < side) → (∃ m : Nat, ls[m]? = some lf ∧ getI back rows side cols (2 * first - 1 - a) across = m) → res = lf.reverse.map (flip rows) ++ lb →
   Ctr Tryz.prog 118 ([(.v (.int .i64 along)), (.v (.int .i64 across))] ++ ofDL (capP b back rows first side cols rws ls)) (fun rr => rr = ⟨.row 0, [.own 79 4 (res.map eL)]⟩) := by
  rintro lf hlt ⟨m, hm, hmn⟩ rfl
  obtain ⟨hflf, hllf⟩ := hf lf (List.mem_of_getElem? hm)
  have get2 := get_s b back rows side cols rws (2 * first - 1 - a) across ls m lf hm hmn h1 hc hsd (by rw [ha]; split <;> omega) hlt h3 hac
  unfold capP capG at *
  cases back <;> simp only [Bool.false_eq_true, if_false, if_true] at ha <;> subst ha
  ·refine Ctr.of (rs := [.tmp 9]) Tok false Tryz.func118 rfl rfl rfl rfl (by simp [ofDL]) (fun w0 kp => ?_)
   simp only [↓sx0, sxE, encs, sevalprocAttr]
   refine CallI.fn (get1) (by simp only [sx3, encs, sxR, sevalprocAttr] <;> (try simp) <;> (try rfl)) ?_
   simp only [↓sx0, sxE, encs, sevalprocAttr]
   repeat ((with_reducible refine Vc.go ?_ fun _ => ?_); (focus (first | omega | (simp only [InK]; omega) | (simp [InK]; done) | (simp [InK]; omega))); simp only [↓sx0, sxE, encs, sevalprocAttr])
   refine BrW.yes (by omega) ?_
   simp only [↓sx0, sxE, encs, sevalprocAttr]
   refine DrawW.plan Tok mixed (.q 0 <| .q 1 <| .q 2 <| .q 4 <| .q 6 <| .e 3 [4] <| .e 5 [] <| .e 7 [] <| .e 8 [] <| .q 9 <| .done) (by kernel_rfl) (by kernel_rfl) ?_
   simp only [↓sx0, sxE, encs, sevalprocAttr]
   refine CallI.fn (get2) (by simp only [sx3, encs, sxR, sevalprocAttr] <;> (try simp) <;> (try rfl)) ?_
   simp only [↓sx0, sxE, encs, sevalprocAttr]
   refine CallI.ctr (turned_s true lf rows hflf (by omega)) (by simp only [sx3, encs, sxR, sevalprocAttr] <;> (try simp) <;> (try rfl)) ?_
   rintro _ rfl
   simp only [↓sx0, sxE, encs, sevalprocAttr]
   refine CallI.ctr (concat_s false [lf.reverse.map (flip rows), lb] (by simp) (by simp; omega)) (by simp only [sx3, encs, sxR, sevalprocAttr] <;> (try simp) <;> (try rfl)) ?_
   rintro _ rfl
   simp only [↓sx0, sxE, encs, sevalprocAttr]
   exact EndW.r [some 2] (by simp) (by simp only [sx4, sxF, encs, kpLL_map, sxR, sevalprocAttr] <;> simp [kpL, kpD]) (by simp only [sx4, sxF, encs, kpLL_map, sxR, sevalprocAttr] <;> simp [kpL, kpD]) (by simp only [sx4, sxF, encs, kpLL_map, sxR, sevalprocAttr] <;> simp [kpL, kpD]) (by simp only [sx4, sxF, encs, kpLL_map, sxR, sevalprocAttr] <;> simp [kpL, kpD])
  ·refine Ctr.of (rs := [.tmp 9]) Tok false Tryz.func118 rfl rfl rfl rfl (by simp [ofDL]) (fun w0 kp => ?_)
   simp only [↓sx0, sxE, encs, sevalprocAttr]
   repeat ((with_reducible refine Vc.go ?_ fun _ => ?_); (focus (first | omega | (simp only [InK]; omega) | (simp [InK]; done) | (simp [InK]; omega))); simp only [↓sx0, sxE, encs, sevalprocAttr])
   refine CallI.fn (get1) (by simp only [sx3, encs, sxR, sevalprocAttr] <;> (try simp) <;> (try rfl)) ?_
   simp only [↓sx0, sxE, encs, sevalprocAttr]
   repeat ((with_reducible refine Vc.go ?_ fun _ => ?_); (focus (first | omega | (simp only [InK]; omega) | (simp [InK]; done) | (simp [InK]; omega))); simp only [↓sx0, sxE, encs, sevalprocAttr])
   refine BrW.yes (by omega) ?_
   simp only [↓sx0, sxE, encs, sevalprocAttr]
   refine DrawW.plan Tok mixed (.q 0 <| .q 1 <| .q 2 <| .q 4 <| .q 6 <| .e 3 [4] <| .e 5 [] <| .e 7 [] <| .e 8 [] <| .q 9 <| .done) (by kernel_rfl) (by kernel_rfl) ?_
   simp only [↓sx0, sxE, encs, sevalprocAttr]
   refine CallI.fn (get2) (by simp only [sx3, encs, sxR, sevalprocAttr] <;> (try simp) <;> (try rfl)) ?_
   simp only [↓sx0, sxE, encs, sevalprocAttr]
   refine CallI.ctr (turned_s true lf rows hflf (by omega)) (by simp only [sx3, encs, sxR, sevalprocAttr] <;> (try simp) <;> (try rfl)) ?_
   rintro _ rfl
   simp only [↓sx0, sxE, encs, sevalprocAttr]
   refine CallI.ctr (concat_s false [lf.reverse.map (flip rows), lb] (by simp) (by simp; omega)) (by simp only [sx3, encs, sxR, sevalprocAttr] <;> (try simp) <;> (try rfl)) ?_
   rintro _ rfl
   simp only [↓sx0, sxE, encs, sevalprocAttr]
   exact EndW.r [some 2] (by simp) (by simp only [sx4, sxF, encs, kpLL_map, sxR, sevalprocAttr] <;> simp [kpL, kpD]) (by simp only [sx4, sxF, encs, kpLL_map, sxR, sevalprocAttr] <;> simp [kpL, kpD]) (by simp only [sx4, sxF, encs, kpLL_map, sxR, sevalprocAttr] <;> simp [kpL, kpD]) (by simp only [sx4, sxF, encs, kpLL_map, sxR, sevalprocAttr] <;> simp [kpL, kpD])
 by_cases hlt : 2 * first - 1 - a < side
 ·rw [if_pos hlt] at hres
  obtain ⟨m, lf, hm, hmn, hr⟩ := hres
  exact main lf hlt ⟨m, hm, hmn⟩ hr
 ·rw [if_neg hlt] at hres
  subst hres
  clear main
  unfold capP capG at *
  cases back <;> simp only [Bool.false_eq_true, if_false, if_true] at ha <;> subst ha
  ·refine Ctr.of (rs := [.tmp 9]) Tok false Tryz.func118 rfl rfl rfl rfl (by simp [ofDL]) (fun w0 kp => ?_)
   simp only [↓sx0, sxE, encs, sevalprocAttr]
   refine CallI.fn (get1) (by simp only [sx3, encs, sxR, sevalprocAttr] <;> (try simp) <;> (try rfl)) ?_
   simp only [↓sx0, sxE, encs, sevalprocAttr]
   repeat ((with_reducible refine Vc.go ?_ fun _ => ?_); (focus (first | omega | (simp only [InK]; omega) | (simp [InK]; done) | (simp [InK]; omega))); simp only [↓sx0, sxE, encs, sevalprocAttr])
   refine BrW.no (by omega) ?_
   simp only [↓sx0, sxE, encs, sevalprocAttr]
   refine CallI.ctr (clone_s true (res.map eL) (hcl _) (by simp; omega)) (by simp only [sx3, encs, sxR, sevalprocAttr] <;> (try simp) <;> (try rfl)) ?_
   rintro _ rfl
   simp only [↓sx0, sxE, encs, sevalprocAttr]
   exact EndW.r [some 0] (by simp) (by simp only [sx4, sxF, encs, kpLL_map, sxR, sevalprocAttr] <;> simp [kpL, kpD]) (by simp only [sx4, sxF, encs, kpLL_map, sxR, sevalprocAttr] <;> simp [kpL, kpD]) (by simp only [sx4, sxF, encs, kpLL_map, sxR, sevalprocAttr] <;> simp [kpL, kpD]) (by simp only [sx4, sxF, encs, kpLL_map, sxR, sevalprocAttr] <;> simp [kpL, kpD])
  ·refine Ctr.of (rs := [.tmp 9]) Tok false Tryz.func118 rfl rfl rfl rfl (by simp [ofDL]) (fun w0 kp => ?_)
   simp only [↓sx0, sxE, encs, sevalprocAttr]
   repeat ((with_reducible refine Vc.go ?_ fun _ => ?_); (focus (first | omega | (simp only [InK]; omega) | (simp [InK]; done) | (simp [InK]; omega))); simp only [↓sx0, sxE, encs, sevalprocAttr])
   refine CallI.fn (get1) (by simp only [sx3, encs, sxR, sevalprocAttr] <;> (try simp) <;> (try rfl)) ?_
   simp only [↓sx0, sxE, encs, sevalprocAttr]
   repeat ((with_reducible refine Vc.go ?_ fun _ => ?_); (focus (first | omega | (simp only [InK]; omega) | (simp [InK]; done) | (simp [InK]; omega))); simp only [↓sx0, sxE, encs, sevalprocAttr])
   refine BrW.no (by omega) ?_
   simp only [↓sx0, sxE, encs, sevalprocAttr]
   refine CallI.ctr (clone_s true (res.map eL) (hcl _) (by simp; omega)) (by simp only [sx3, encs, sxR, sevalprocAttr] <;> (try simp) <;> (try rfl)) ?_
   rintro _ rfl
   simp only [↓sx0, sxE, encs, sevalprocAttr]
   exact EndW.r [some 0] (by simp) (by simp only [sx4, sxF, encs, kpLL_map, sxR, sevalprocAttr] <;> simp [kpL, kpD]) (by simp only [sx4, sxF, encs, kpLL_map, sxR, sevalprocAttr] <;> simp [kpL, kpD]) (by simp only [sx4, sxF, encs, kpLL_map, sxR, sevalprocAttr] <;> simp [kpL, kpD]) (by simp only [sx4, sxF, encs, kpLL_map, sxR, sevalprocAttr] <;> simp [kpL, kpD])
/-- the stack that lies at a place of a pile that is laid over. -/
def getAt (back rows : Bool) (side cols along across : Nat) : Nat :=
 if rows then (if back then side - 1 - along else along) * cols + across else across * cols + (if back then side - 1 - along else along)
def laidAt (cols rws first : Nat) (rows back : Bool) (ls : List (List Leaf)) (along across : Nat) : List Leaf :=
 let side := if rows then rws else cols
 let a := if back then first - 1 - along else along
 let lb := stkAt ls (getAt back rows side cols a across)
 if 2 * first - 1 - a < side then (stkAt ls (getAt back rows side cols (2 * first - 1 - a) across)).reverse.map (flip rows) ++ lb else lb
def laidG (cols rws first : Nat) (rows back : Bool) (ls : List (List Leaf)) : List (List Leaf) :=
 if rows then grid cols first fun c r => laidAt cols rws first rows back ls r c else grid first rws fun c r => laidAt cols rws first rows back ls c r
theorem getI_at {back rows : Bool} {side cols along across : Nat} (h : along < side) : getI back rows side cols along across = getAt back rows side cols along across := by
 unfold getI getAt
 have : ((side - 1 - along : Nat) : Int) = (side : Int) - 1 - along := by omega
 cases back <;> cases rows <;> simp [Int.natCast_add, Int.natCast_mul, this]
theorem get_lt {back rows : Bool} {cols rws a across : Nat} (ha : a < if rows then rws else cols) (hx : across < if rows then cols else rws) : getAt back rows (if rows then rws else cols) cols a across < rws * cols := by
 unfold getAt
 cases rows
 ·simp only [Bool.false_eq_true, if_false] at ha hx ⊢
  exact cell_lt hx (by split <;> omega)
 ·simp only [if_true] at ha hx ⊢
  exact cell_lt (by split <;> omega) hx
theorem put_at (b back rows : Bool) (cols rws first : Nat) (ls : List (List Leaf)) (hf : FineP ls) (hc : cols ≤ 1000) (hr : rws ≤ 1000) (hn : ls.length = rws * cols) (h1 : first ≤ if rows then rws else cols) (along across : Nat) (hal : along < first) (hac : across < if rows then cols else rws) :
  Ctr Tryz.prog 118 ([(.v (.int .i64 along)), (.v (.int .i64 across))] ++ ofDL (capP b back rows first (if rows then rws else cols : Nat) cols rws ls)) (fun rr => rr = ⟨.row 0, [.own 79 4 ((laidAt cols rws first rows back ls along across).map eL)]⟩) := by
 have hsd : (if rows then rws else cols) ≤ 1000 := by split <;> omega
 have hac2 : across ≤ 1000 := by
  cases rows
  ·simp only [Bool.false_eq_true, if_false] at hac; omega
  ·simp only [if_true] at hac; omega
 have ha : (if back then first - 1 - along else along) < if rows then rws else cols := by
  cases back <;> simp only [if_true, Bool.false_eq_true, if_false] <;> omega
 have haf : (if back then first - 1 - along else along) < first := by
  cases back <;> simp only [if_true, Bool.false_eq_true, if_false] <;> omega
 have hai : (((if back then first - 1 - along else along : Nat)) : Int) = if back then (first : Int) - 1 - along else along := by
  cases back <;> simp only [if_true, Bool.false_eq_true, if_false]; omega
 have hlen : ls[getAt back rows (if rows then rws else cols) cols (if back then first - 1 - along else along) across]? = some _ := stkAt_get (by rw [hn]; exact get_lt ha hac)
 refine put_s b back rows first (if rows then rws else cols : Nat) cols rws along across _ ls hf _ _ _ hai hlen (getI_at ha) (by omega) (by omega) (by omega) (by omega) (by omega) (by omega) (by omega) (by omega) ?_
 unfold laidAt
 simp only []
 generalize (if back then first - 1 - along else along) = a at *
 by_cases hlt : 2 * first - 1 - a < if rows then rws else cols
 ·rw [if_pos hlt, if_pos (by omega)]
  refine ⟨_, _, stkAt_get (by rw [hn]; exact get_lt hlt hac), ?_, rfl⟩
  rw [← getI_at hlt]
  congr 1; omega
 ·rw [if_neg hlt, if_neg (by omega)]
end Go.Proofs.YtgiegokdcmkfeaaGreatDoor
/-
 Chapter 6, walks: sheets.
-/
namespace Go.Proofs.YtgiegokdcmkfeaaGreatDoor
open Go Go.Vx
set_option maxRecDepth 20000
theorem within_s (n lo hi : Int) : Ctr Tryz.prog 45 [(.v (.int .i64 n)), (.v (.int .i64 lo)), (.v (.int .i64 hi))] (fun rr => rr = ⟨(.v (.bool (decide (lo ≤ n ∧ n ≤ hi)))), []⟩) := by
 refine Ctr.of (rs := [.tmp 6]) Tok true Tryz.func45 rfl rfl rfl rfl (by simp [ofDL]) (fun w0 kp => ?_)
 simp only [↓sx0, sxE, encs, sevalprocAttr]
 refine BrW.dec (fun h => ?_) (fun h => ?_)
 ·simp only [↓sx0, sxE, encs, sevalprocAttr]
  refine EndW.fn ?_ ?_ <;> simp only [sx4, encs, kpLL_map, sxR, sevalprocAttr] <;> (try simp [h]) <;> (try omega)
 ·simp only [↓sx0, sxE, encs, sevalprocAttr]
  refine EndW.fn ?_ ?_ <;> simp only [sx4, encs, kpLL_map, sxR, sevalprocAttr] <;> (try simp [h]) <;> (try omega)
def sheetErr (c r : Int) : Int := if 1 ≤ c ∧ c ≤ 8 then (if 1 ≤ r ∧ r ≤ 8 then (if 32 < c * r then 8 else 0) else 2) else 2
theorem checkSheet_s (c r : Int) : Ctr Tryz.prog 46 [(.v (.int .i64 c)), (.v (.int .i64 r))] (fun rr => rr = ⟨(.v (.int .i64 (sheetErr c r))), []⟩) := by
 refine Ctr.of (rs := [.tmp 4]) Tok true Tryz.func46 rfl rfl rfl rfl (by simp [ofDL]) (fun w0 kp => ?_)
 simp only [↓sx0, sxE, encs, sevalprocAttr]
 refine CallI.fn (within_s c 1 8) (by simp only [sx3, encs, sxR, sevalprocAttr] <;> (try simp) <;> (try rfl)) ?_
 simp only [↓sx0, sxE, encs, sevalprocAttr]
 refine BrW.dec (fun h => ?_) (fun h => ?_)
 ·simp only [↓sx0, sxE, encs, sevalprocAttr]
  refine CallI.fn (within_s r 1 8) (by simp only [sx3, encs, sxR, sevalprocAttr] <;> (try simp) <;> (try rfl)) ?_
  simp only [↓sx0, sxE, encs, sevalprocAttr]
  refine BrW.dec (fun h' => ?_) (fun h' => ?_)
  ·have b1 : c * r ≤ 8 * 8 := Int.mul_le_mul h.2 h'.2 (by omega) (by omega)
   have b2 : 0 ≤ c * r := Int.mul_nonneg (by omega) (by omega)
   simp only [↓sx0, sxE, encs, sevalprocAttr]
   (with_reducible refine Vc.go ?_ fun _ => ?_); focus (first | omega | (simp only [InK]; omega) | (simp [InK]; done) | (simp [InK]; omega))
   simp only [↓sx0, sxE, encs, sevalprocAttr]
   refine BrW.dec (fun g => ?_) (fun g => ?_)
   ·simp only [↓sx0, sxE, encs, sevalprocAttr]
    refine EndW.fn ?_ ?_ <;> simp only [sx4, encs, kpLL_map, sxR, sevalprocAttr] <;> (try simp [sheetErr, h, h', g]) <;> (try omega)
   ·simp only [↓sx0, sxE, encs, sevalprocAttr]
    refine EndW.fn ?_ ?_ <;> simp only [sx4, encs, kpLL_map, sxR, sevalprocAttr] <;> (try simp [sheetErr, h, h', g]) <;> (try omega)
  ·simp only [↓sx0, sxE, encs, sevalprocAttr]
   refine EndW.fn ?_ ?_ <;> simp only [sx4, encs, kpLL_map, sxR, sevalprocAttr] <;> (try simp [sheetErr, h, h']) <;> (try omega)
 ·simp only [↓sx0, sxE, encs, sevalprocAttr]
  refine EndW.fn ?_ ?_ <;> simp only [sx4, encs, kpLL_map, sxR, sevalprocAttr] <;> (try simp [sheetErr, h]) <;> (try omega)
def oneL (c r : Nat) : List Leaf := [⟨c, r, 0, 0⟩]
def flatG (cols rows : Nat) : List (List Leaf) := grid cols rows oneL
theorem flat_s (cols rows : Nat) (hc : cols ≤ 1000) (hr : rows ≤ 1000) : Ctr Tryz.prog 67 [(.v (.int .i64 cols)), (.v (.int .i64 rows))] (fun rr => rr = ⟨.agg [(.v (.int .i64 cols)), (.v (.int .i64 rows)), .sl true 1 ((flatG cols rows).map eK)], []⟩) := by
 have hsz : rows * cols ≤ 1000 * 1000 := Nat.mul_le_mul hr hc
 refine Ctr.of (rs := [.cell 4 143]) Tok true Tryz.func67 rfl rfl rfl rfl (by simp [ofDL]) (fun w0 kp => ?_)
 simp only [↓sx0, sxE, encs, sevalprocAttr]
 refine LoopW.comp [0, 4, 5, 11, 12] (by simp only [sx2, encs, sxR, sevalprocAttr] <;> (try simp) <;> (try omega)) ?_
 simp only [sx2, sxR, sevalprocAttr]
 refine LoopW.up Tok (fun r : Nat => [(12, (.v (.int .i64 r)))]) (fun r => [(1, [(.v (.int .i64 cols)), (.v (.int .i64 rows)), .row 0])]) (fun r => []) (fun r => [.own 75 1 ((grid cols r oneL).map eK)]) (fun r => r ≤ rows) (fun r => rows - r) (0) (by simp only [sx2, encs, sxR, sevalprocAttr] <;> (try simp) <;> (try omega)) ?_ ?_
 ·omega
 rintro r hr1
 simp only [↓sx0, sxE, encs, sevalprocAttr]
 refine BrW.dec (fun hlt => ?_) (fun hlt => ?_)
 ·simp only [↓sx0, sxE, encs, sevalprocAttr]
  have hr2 : r < rows := by omega
  refine LoopW.comp [0, 4, 5, 6, 11, 12, 15, 16] (by simp only [sx2, encs, sxR, sevalprocAttr] <;> (try simp) <;> (try omega)) ?_
  simp only [sx2, sxR, sevalprocAttr]
  refine LoopW.up Tok (fun k : Nat => [(16, (.v (.int .i64 k)))]) (fun k => []) (fun k => [(0, ((grid cols r oneL) ++ gridRow k oneL r).map eK)]) (fun k => []) (fun k => k ≤ cols) (fun k => cols - k) (0) (by simp only [sx2, encs, sxR, sevalprocAttr] <;> (try simp) <;> (try omega)) ?_ ?_
  ·omega
  rintro k hk1
  have hlen : r * cols + k ≤ 1000000 := by
   have h1 : (r + 1) * cols ≤ rows * cols := Nat.mul_le_mul_right _ hr2
   rw [Nat.succ_mul] at h1
   omega
  simp only [↓sx0, sxE, encs, sevalprocAttr]
  refine BrW.dec (fun hlt2 => ?_) (fun hlt2 => ?_)
  ·simp only [↓sx0, sxE, encs, sevalprocAttr]
   (with_reducible refine Vc.go ?_ fun _ => ?_); focus (first | omega | (simp only [InK]; omega) | (simp [grid_length, gridRow_length, InK]; done) | (simp [grid_length, gridRow_length, InK]; omega))
   simp only [↓sx0, sxE, encs, sevalprocAttr]
   (with_reducible refine Vc.go ?_ fun _ => ?_); focus (first | omega | (simp only [InK]; omega) | (simp [InK]; done) | (simp [InK]; omega))
   simp only [↓sx0, sxE, encs, sevalprocAttr]
   refine ⟨k + 1, StLe.auto (by simp only [sx2, encs, sxR, sevalprocAttr] <;> (try simp [gridRow_succ, oneL, encs]) <;> (try omega)), ?_, ?_⟩
   ·omega
   ·omega
  ·simp only [↓sx0, sxE, encs, sevalprocAttr]
   have : k = cols := by omega
   subst this
   (with_reducible refine Vc.go ?_ fun _ => ?_); focus (first | omega | (simp only [InK]; omega) | (simp [InK]; done) | (simp [InK]; omega))
   simp only [↓sx0, sxE, encs, sevalprocAttr]
   refine ⟨r + 1, StLe.auto (by simp only [sx2, encs, sxR, sevalprocAttr] <;> (try simp [grid_succ, encs]) <;> (try omega)), ?_, ?_⟩
   ·omega
   ·omega
 ·simp only [↓sx0, sxE, encs, sevalprocAttr]
  have : r = rows := by omega
  subst this
  refine EndW.fn ?_ ?_ <;> simp only [sx4, encs, kpLL_map, sxR, sevalprocAttr] <;> (try simp [flatG]) <;> (try omega)
end Go.Proofs.YtgiegokdcmkfeaaGreatDoor
/-
 Chapter 6, walks: folds.
-/
namespace Go.Proofs.YtgiegokdcmkfeaaGreatDoor
open Go Go.Vx
set_option maxRecDepth 20000
theorem laid3_s (caps : List D) (b : Bool) (c r : Nat) (res : List Leaf) (hput : Ctr Tryz.prog 118 ([(.v (.int .i64 r)), (.v (.int .i64 c))] ++ ofDL caps) (fun rr => rr = ⟨.row 0, [.own 79 4 (res.map eL)]⟩)) (hlend : ∀ rw bx, argOk rw bx (ofDL caps) (ofDL caps) = True) :
  Ctr Tryz.prog 120 ([(.v (.int .i64 c)), (.v (.int .i64 r))] ++ [.pt b [.clo 118 caps]]) (fun rr => rr = ⟨.row 0, [.own 79 4 (res.map eL)]⟩) := by
 have encs := And.intro encs hlend
 refine Ctr.of (rs := [.tmp 5]) Tok false Tryz.func120 rfl rfl rfl rfl (by simp [ofDL]) (fun w0 kp => ?_)
 simp only [↓sx0, sxE, encs, sevalprocAttr]
 refine CallI.ctr (hput) (by simp only [sx3, encs, sxR, sevalprocAttr] <;> (try simp) <;> (try rfl)) ?_
 rintro _ rfl
 simp only [↓sx0, sxE, encs, sevalprocAttr]
 exact EndW.r [some 0] (by simp) (by simp only [sx4, sxF, encs, kpLL_map, sxR, sevalprocAttr] <;> simp [kpL, kpD]) (by simp only [sx4, sxF, encs, kpLL_map, sxR, sevalprocAttr] <;> simp [kpL, kpD]) (by simp only [sx4, sxF, encs, kpLL_map, sxR, sevalprocAttr] <;> simp [kpL, kpD]) (by simp only [sx4, sxF, encs, kpLL_map, sxR, sevalprocAttr] <;> simp [kpL, kpD])
theorem laid_s (b rows back : Bool) (ls : List (List Leaf)) (hf : FineP ls) (cols rws first : Nat) (hc : cols ≤ 1000) (hr : rws ≤ 1000) (hn : ls.length = rws * cols) (h1 : first ≤ if rows then rws else cols) :
  Ctr Tryz.prog 96 [.agg [(.v (.int .i64 cols)), (.v (.int .i64 rws)), .sl b 1 (ls.map eK)], (.v (.int .i64 first)), (.v (.bool (rows))), (.v (.bool (back)))] (fun rr => rr = ⟨.agg [(.v (.int .i64 (if rows then (cols : Int) else first))), (.v (.int .i64 (if rows then (first : Int) else rws))), .sl true 1 ((laidG cols rws first rows back ls).map eK)], []⟩) := by
 have put := fun along across => put_at b back rows cols rws first ls hf hc hr hn h1 along across
 unfold capP capG at put
 cases rows <;> simp only [Bool.false_eq_true, if_false, if_true] at h1 put ⊢
 ·refine Ctr.of (rs := [.cell 8 143]) Tok true Tryz.func96 rfl rfl rfl rfl (by simp [ofDL]) (fun w0 kp => ?_)
  simp only [↓sx0, sxE, encs, sevalprocAttr]
  refine DrawW.plan Tok mixed (.q 0 <| .q 1 <| .q 2 <| .q 3 <| .e 4 [1, 3] <| .e 5 [3] <| .q 6 <| .done) (by kernel_rfl) (by kernel_rfl) ?_
  simp only [↓sx0, sxE, encs, sevalprocAttr]
  refine CallI.fn (moved_s 118 _ (by intro; rfl) (by intro β γ; simp [leL, leV, ofDL, ofD]) (by intro rw bx; simp [argOk, lendA, lendO, argO, ofD, ofDL, leV]) first rws (fun c r => laidAt cols rws first false back ls c r) put (by omega) hr) (by simp only [sx3, encs, sxR, sevalprocAttr] <;> (try simp) <;> (try rfl)) ?_
  simp only [↓sx0, sxE, encs, sevalprocAttr]
  refine EndW.fn ?_ ?_ <;> simp only [sx4, encs, kpLL_map, sxR, sevalprocAttr] <;> (try simp [laidG]) <;> (try omega)
 ·refine Ctr.of (rs := [.cell 8 143]) Tok true Tryz.func96 rfl rfl rfl rfl (by simp [ofDL]) (fun w0 kp => ?_)
  simp only [↓sx0, sxE, encs, sevalprocAttr]
  refine DrawW.plan Tok mixed (.q 0 <| .q 1 <| .q 2 <| .q 3 <| .e 4 [1, 3] <| .e 5 [3] <| .q 6 <| .done) (by kernel_rfl) (by kernel_rfl) ?_
  simp only [↓sx0, sxE, encs, sevalprocAttr]
  refine CallI.fn (moved_s 120 [.pt false [.clo 118 [.pt false [.v (.bool back)], .pt false [.v (.int .i64 first)], .pt false [.clo 117 [.pt false [.v (.bool back)], .pt false [.v (.int .i64 rws)], .pt false [.v (.bool true)], .pt false [.v (.int .i64 cols), .v (.int .i64 rws), .sl b 1 (ls.map eK)]]], .pt false [.v (.int .i64 rws)], .pt false [.v (.bool true)]]]] (by intro; rfl) (by intro β γ; simp [leL, leV, ofDL, ofD]) (by intro rw bx; simp [argOk, lendA, lendO, argO, ofD, ofDL, leV]) cols first (fun c r => laidAt cols rws first true back ls r c) (fun c r h2 h3 => laid3_s _ false c r _ (put r c h3 h2) (by intro rw bx; simp [argOk, lendA, lendO, argO, ofD, ofDL, leV])) hc (by omega)) (by simp only [sx3, encs, sxR, sevalprocAttr] <;> (try simp) <;> (try rfl)) ?_
  simp only [↓sx0, sxE, encs, sevalprocAttr]
  refine EndW.fn ?_ ?_ <;> simp only [sx4, encs, kpLL_map, sxR, sevalprocAttr] <;> (try simp [laidG]) <;> (try omega)
/-- A pile that is folded. -/
structure PileS where
 cols : Nat
 rows : Nat
 ls : List (List Leaf)
def PileS.Ok (p : PileS) : Prop := p.cols ≤ 1000 ∧ p.rows ≤ 1000 ∧ p.ls.length = p.rows * p.cols ∧ FineP p.ls
def foldSide (p : PileS) (x : Fold) : Nat := if x.kind = 3 ∨ x.kind = 4 then p.rows else p.cols
def foldErrS (p : PileS) (x : Fold) : Int :=
 if ¬ (1 ≤ x.kind ∧ x.kind ≤ 6) then 15
 else if (if x.kind = 5 ∨ x.kind = 6 then x.count ≠ 0 else x.count < 1) then 2
 else if ¬ (x.kind = 5 ∨ x.kind = 6) ∧ (foldSide p x : Int) - x.count < x.count then 26 else 0
def foldP (p : PileS) (x : Fold) : PileS :=
 if foldErrS p x ≠ 0 then p
 else if x.kind = 5 then ⟨p.cols, p.rows, overG p.cols p.rows p.ls⟩
 else if x.kind = 6 then ⟨p.cols, p.rows, roundG p.cols p.rows p.ls⟩
 else
  let first := ((foldSide p x : Int) - x.count).toNat
  let rows := decide (x.kind = 3 ∨ x.kind = 4)
  ⟨if rows then p.cols else first, if rows then first else p.rows, laidG p.cols p.rows first rows (decide (x.kind = 2 ∨ x.kind = 4)) p.ls⟩
def svP (p : PileS) : SV := .agg [(.v (.int .i64 p.cols)), (.v (.int .i64 p.rows)), .sl true 1 (p.ls.map eK)]
theorem fold_s (p : PileS) (hp : p.Ok) (x : Fold) (hx : -9223372036854775808 ≤ x.count ∧ x.count ≤ 9223372036854775807) : Ctr Tryz.prog 68 [.agg [(.v (.int .i64 p.cols)), (.v (.int .i64 p.rows)), .sl true 1 (p.ls.map eK)], .agg [(.v (.int .i64 x.kind)), (.v (.int .i64 x.count))]] (fun rr => rr = ⟨.tup [.agg [(.v (.int .i64 ((foldP p x).cols))), (.v (.int .i64 ((foldP p x).rows))), .sl true 1 ((foldP p x).ls.map eK)], (.v (.int .i64 (foldErrS p x)))], []⟩) := by
 obtain ⟨hc, hr, hn, hf⟩ := hp
 have hkind : x.kind = 1 ∨ x.kind = 2 ∨ x.kind = 3 ∨ x.kind = 4 ∨ x.kind = 5 ∨ x.kind = 6 ∨ ¬ (1 ≤ x.kind ∧ x.kind ≤ 6) := by omega
 obtain ⟨kind, count⟩ := x
 simp only [] at hkind hx
 rcases hkind with rfl | rfl | rfl | rfl | rfl | rfl | hk
 ·refine Ctr.of (rs := [.cell 4 143, .tmp 5]) Tok true Tryz.func68 rfl rfl rfl rfl (by simp [ofDL]) (fun w0 kp => ?_)
  simp only [↓sx0, sxE, encs, sevalprocAttr]
  refine CallI.fn (within_s 1 1 6) (by simp only [sx3, encs, sxR, sevalprocAttr] <;> (try simp) <;> (try rfl)) ?_
  simp only [↓sx0, sxE, encs, sevalprocAttr]
  refine BrW.dec (fun h1 => ?_) (fun h1 => ?_)
  ·simp only [↓sx0, sxE, encs, sevalprocAttr]
   refine EndW.fn ?_ ?_ <;> simp only [sx4, encs, kpLL_map, sxR, sevalprocAttr] <;> (try simp [foldP, foldErrS, h1]) <;> (try omega)
  ·simp only [↓sx0, sxE, encs, sevalprocAttr]
   repeat ((with_reducible refine Vc.go ?_ fun _ => ?_); (focus (first | omega | (simp only [InK]; omega) | (simp [InK]; done) | (simp [InK]; omega))); simp only [↓sx0, sxE, encs, sevalprocAttr])
   refine BrW.dec (fun h2 => ?_) (fun h2 => ?_)
   ·simp only [↓sx0, sxE, encs, sevalprocAttr]
    refine EndW.fn ?_ ?_ <;> simp only [sx4, encs, kpLL_map, sxR, sevalprocAttr] <;> (try simp [foldP, foldErrS, foldSide, h1, h2]) <;> (try omega)
   ·simp only [↓sx0, sxE, encs, sevalprocAttr]
    repeat ((with_reducible refine Vc.go ?_ fun _ => ?_); (focus (first | omega | (simp only [InK]; omega) | (simp [InK]; done) | (simp [InK]; omega))); simp only [↓sx0, sxE, encs, sevalprocAttr])
    have hfi : ((((p.cols : Int) - count).toNat : Nat) : Int) = (p.cols : Int) - count := by omega
    have hl := laid_s true false false p.ls hf p.cols p.rows ((p.cols : Int) - count).toNat hc hr hn (by simp; omega)
    rw [hfi] at hl
    simp only [Bool.false_eq_true, if_false, if_true] at hl
    refine CallI.fn (hl) (by simp only [sx3, encs, sxR, sevalprocAttr] <;> (try simp) <;> (try rfl)) ?_
    simp only [↓sx0, sxE, encs, sevalprocAttr]
    refine EndW.fn ?_ ?_ <;> simp only [sx4, encs, kpLL_map, sxR, sevalprocAttr] <;> (try simp [foldP, foldErrS, foldSide, h1, h2, hfi]) <;> (try omega)
 ·refine Ctr.of (rs := [.cell 4 143, .tmp 5]) Tok true Tryz.func68 rfl rfl rfl rfl (by simp [ofDL]) (fun w0 kp => ?_)
  simp only [↓sx0, sxE, encs, sevalprocAttr]
  refine CallI.fn (within_s 2 1 6) (by simp only [sx3, encs, sxR, sevalprocAttr] <;> (try simp) <;> (try rfl)) ?_
  simp only [↓sx0, sxE, encs, sevalprocAttr]
  refine BrW.dec (fun h1 => ?_) (fun h1 => ?_)
  ·simp only [↓sx0, sxE, encs, sevalprocAttr]
   refine EndW.fn ?_ ?_ <;> simp only [sx4, encs, kpLL_map, sxR, sevalprocAttr] <;> (try simp [foldP, foldErrS, h1]) <;> (try omega)
  ·simp only [↓sx0, sxE, encs, sevalprocAttr]
   repeat ((with_reducible refine Vc.go ?_ fun _ => ?_); (focus (first | omega | (simp only [InK]; omega) | (simp [InK]; done) | (simp [InK]; omega))); simp only [↓sx0, sxE, encs, sevalprocAttr])
   refine BrW.dec (fun h2 => ?_) (fun h2 => ?_)
   ·simp only [↓sx0, sxE, encs, sevalprocAttr]
    refine EndW.fn ?_ ?_ <;> simp only [sx4, encs, kpLL_map, sxR, sevalprocAttr] <;> (try simp [foldP, foldErrS, foldSide, h1, h2]) <;> (try omega)
   ·simp only [↓sx0, sxE, encs, sevalprocAttr]
    repeat ((with_reducible refine Vc.go ?_ fun _ => ?_); (focus (first | omega | (simp only [InK]; omega) | (simp [InK]; done) | (simp [InK]; omega))); simp only [↓sx0, sxE, encs, sevalprocAttr])
    have hfi : ((((p.cols : Int) - count).toNat : Nat) : Int) = (p.cols : Int) - count := by omega
    have hl := laid_s true false true p.ls hf p.cols p.rows ((p.cols : Int) - count).toNat hc hr hn (by simp; omega)
    rw [hfi] at hl
    simp only [Bool.false_eq_true, if_false, if_true] at hl
    refine CallI.fn (hl) (by simp only [sx3, encs, sxR, sevalprocAttr] <;> (try simp) <;> (try rfl)) ?_
    simp only [↓sx0, sxE, encs, sevalprocAttr]
    refine EndW.fn ?_ ?_ <;> simp only [sx4, encs, kpLL_map, sxR, sevalprocAttr] <;> (try simp [foldP, foldErrS, foldSide, h1, h2, hfi]) <;> (try omega)
 ·refine Ctr.of (rs := [.cell 4 143, .tmp 5]) Tok true Tryz.func68 rfl rfl rfl rfl (by simp [ofDL]) (fun w0 kp => ?_)
  simp only [↓sx0, sxE, encs, sevalprocAttr]
  refine CallI.fn (within_s 3 1 6) (by simp only [sx3, encs, sxR, sevalprocAttr] <;> (try simp) <;> (try rfl)) ?_
  simp only [↓sx0, sxE, encs, sevalprocAttr]
  refine BrW.dec (fun h1 => ?_) (fun h1 => ?_)
  ·simp only [↓sx0, sxE, encs, sevalprocAttr]
   refine EndW.fn ?_ ?_ <;> simp only [sx4, encs, kpLL_map, sxR, sevalprocAttr] <;> (try simp [foldP, foldErrS, h1]) <;> (try omega)
  ·simp only [↓sx0, sxE, encs, sevalprocAttr]
   repeat ((with_reducible refine Vc.go ?_ fun _ => ?_); (focus (first | omega | (simp only [InK]; omega) | (simp [InK]; done) | (simp [InK]; omega))); simp only [↓sx0, sxE, encs, sevalprocAttr])
   refine BrW.dec (fun h2 => ?_) (fun h2 => ?_)
   ·simp only [↓sx0, sxE, encs, sevalprocAttr]
    refine EndW.fn ?_ ?_ <;> simp only [sx4, encs, kpLL_map, sxR, sevalprocAttr] <;> (try simp [foldP, foldErrS, foldSide, h1, h2]) <;> (try omega)
   ·simp only [↓sx0, sxE, encs, sevalprocAttr]
    repeat ((with_reducible refine Vc.go ?_ fun _ => ?_); (focus (first | omega | (simp only [InK]; omega) | (simp [InK]; done) | (simp [InK]; omega))); simp only [↓sx0, sxE, encs, sevalprocAttr])
    have hfi : ((((p.rows : Int) - count).toNat : Nat) : Int) = (p.rows : Int) - count := by omega
    have hl := laid_s true true false p.ls hf p.cols p.rows ((p.rows : Int) - count).toNat hc hr hn (by simp; omega)
    rw [hfi] at hl
    simp only [Bool.false_eq_true, if_false, if_true] at hl
    refine CallI.fn (hl) (by simp only [sx3, encs, sxR, sevalprocAttr] <;> (try simp) <;> (try rfl)) ?_
    simp only [↓sx0, sxE, encs, sevalprocAttr]
    refine EndW.fn ?_ ?_ <;> simp only [sx4, encs, kpLL_map, sxR, sevalprocAttr] <;> (try simp [foldP, foldErrS, foldSide, h1, h2, hfi]) <;> (try omega)
 ·refine Ctr.of (rs := [.cell 4 143, .tmp 5]) Tok true Tryz.func68 rfl rfl rfl rfl (by simp [ofDL]) (fun w0 kp => ?_)
  simp only [↓sx0, sxE, encs, sevalprocAttr]
  refine CallI.fn (within_s 4 1 6) (by simp only [sx3, encs, sxR, sevalprocAttr] <;> (try simp) <;> (try rfl)) ?_
  simp only [↓sx0, sxE, encs, sevalprocAttr]
  refine BrW.dec (fun h1 => ?_) (fun h1 => ?_)
  ·simp only [↓sx0, sxE, encs, sevalprocAttr]
   refine EndW.fn ?_ ?_ <;> simp only [sx4, encs, kpLL_map, sxR, sevalprocAttr] <;> (try simp [foldP, foldErrS, h1]) <;> (try omega)
  ·simp only [↓sx0, sxE, encs, sevalprocAttr]
   repeat ((with_reducible refine Vc.go ?_ fun _ => ?_); (focus (first | omega | (simp only [InK]; omega) | (simp [InK]; done) | (simp [InK]; omega))); simp only [↓sx0, sxE, encs, sevalprocAttr])
   refine BrW.dec (fun h2 => ?_) (fun h2 => ?_)
   ·simp only [↓sx0, sxE, encs, sevalprocAttr]
    refine EndW.fn ?_ ?_ <;> simp only [sx4, encs, kpLL_map, sxR, sevalprocAttr] <;> (try simp [foldP, foldErrS, foldSide, h1, h2]) <;> (try omega)
   ·simp only [↓sx0, sxE, encs, sevalprocAttr]
    repeat ((with_reducible refine Vc.go ?_ fun _ => ?_); (focus (first | omega | (simp only [InK]; omega) | (simp [InK]; done) | (simp [InK]; omega))); simp only [↓sx0, sxE, encs, sevalprocAttr])
    have hfi : ((((p.rows : Int) - count).toNat : Nat) : Int) = (p.rows : Int) - count := by omega
    have hl := laid_s true true true p.ls hf p.cols p.rows ((p.rows : Int) - count).toNat hc hr hn (by simp; omega)
    rw [hfi] at hl
    simp only [Bool.false_eq_true, if_false, if_true] at hl
    refine CallI.fn (hl) (by simp only [sx3, encs, sxR, sevalprocAttr] <;> (try simp) <;> (try rfl)) ?_
    simp only [↓sx0, sxE, encs, sevalprocAttr]
    refine EndW.fn ?_ ?_ <;> simp only [sx4, encs, kpLL_map, sxR, sevalprocAttr] <;> (try simp [foldP, foldErrS, foldSide, h1, h2, hfi]) <;> (try omega)
 ·refine Ctr.of (rs := [.cell 4 143, .tmp 5]) Tok true Tryz.func68 rfl rfl rfl rfl (by simp [ofDL]) (fun w0 kp => ?_)
  simp only [↓sx0, sxE, encs, sevalprocAttr]
  refine CallI.fn (within_s 5 1 6) (by simp only [sx3, encs, sxR, sevalprocAttr] <;> (try simp) <;> (try rfl)) ?_
  simp only [↓sx0, sxE, encs, sevalprocAttr]
  refine BrW.dec (fun h1 => ?_) (fun h1 => ?_)
  ·simp only [↓sx0, sxE, encs, sevalprocAttr]
   refine EndW.fn ?_ ?_ <;> simp only [sx4, encs, kpLL_map, sxR, sevalprocAttr] <;> (try simp [foldP, foldErrS, h1]) <;> (try omega)
  ·simp only [↓sx0, sxE, encs, sevalprocAttr]
   refine CallI.fn (over_s true p.ls hf p.cols p.rows hc hr hn) (by simp only [sx3, encs, sxR, sevalprocAttr] <;> (try simp) <;> (try rfl)) ?_
   simp only [↓sx0, sxE, encs, sevalprocAttr]
   refine EndW.fn ?_ ?_ <;> simp only [sx4, encs, kpLL_map, sxR, sevalprocAttr] <;> (try simp [foldP, foldErrS, h1]) <;> (try omega)
 ·refine Ctr.of (rs := [.cell 4 143, .tmp 5]) Tok true Tryz.func68 rfl rfl rfl rfl (by simp [ofDL]) (fun w0 kp => ?_)
  simp only [↓sx0, sxE, encs, sevalprocAttr]
  refine CallI.fn (within_s 6 1 6) (by simp only [sx3, encs, sxR, sevalprocAttr] <;> (try simp) <;> (try rfl)) ?_
  simp only [↓sx0, sxE, encs, sevalprocAttr]
  refine BrW.dec (fun h1 => ?_) (fun h1 => ?_)
  ·simp only [↓sx0, sxE, encs, sevalprocAttr]
   refine EndW.fn ?_ ?_ <;> simp only [sx4, encs, kpLL_map, sxR, sevalprocAttr] <;> (try simp [foldP, foldErrS, h1]) <;> (try omega)
  ·simp only [↓sx0, sxE, encs, sevalprocAttr]
   refine CallI.fn (round_s true p.ls hf p.cols p.rows hc hr hn) (by simp only [sx3, encs, sxR, sevalprocAttr] <;> (try simp) <;> (try rfl)) ?_
   simp only [↓sx0, sxE, encs, sevalprocAttr]
   refine EndW.fn ?_ ?_ <;> simp only [sx4, encs, kpLL_map, sxR, sevalprocAttr] <;> (try simp [foldP, foldErrS, h1]) <;> (try omega)
 ·have e5 : ¬ kind = 5 := by omega
  have e6 : ¬ kind = 6 := by omega
  have e3 : ¬ kind = 3 := by omega
  have e4 : ¬ kind = 4 := by omega
  refine Ctr.of (rs := [.cell 4 143, .tmp 5]) Tok true Tryz.func68 rfl rfl rfl rfl (by simp [ofDL]) (fun w0 kp => ?_)
  simp only [↓sx0, sxE, encs, sevalprocAttr]
  refine BrW.no e5 ?_
  simp only [↓sx0, sxE, encs, sevalprocAttr]
  refine BrW.no e3 ?_
  simp only [↓sx0, sxE, encs, sevalprocAttr]
  refine BrW.no e4 ?_
  simp only [↓sx0, sxE, encs, sevalprocAttr]
  refine CallI.fn (within_s kind 1 6) (by simp only [sx3, encs, sxR, sevalprocAttr] <;> (try simp) <;> (try rfl)) ?_
  simp only [↓sx0, sxE, encs, sevalprocAttr]
  refine BrW.no hk ?_
  simp only [↓sx0, sxE, encs, sevalprocAttr]
  refine EndW.fn ?_ ?_ <;> simp only [sx4, encs, kpLL_map, sxR, sevalprocAttr] <;> (try simp [foldP, foldErrS, hk]) <;> (try omega)
end Go.Proofs.YtgiegokdcmkfeaaGreatDoor
/-
 Chapter 6, walks: folded sheets.
-/
namespace Go.Proofs.YtgiegokdcmkfeaaGreatDoor
open Go Go.Vx
set_option maxRecDepth 20000
/-- a pile that is right, its stacks at most so high. -/
structure PileS.Good (h : Nat) (p : PileS) : Prop where
 c1 : 1 ≤ p.cols
 c2 : p.cols ≤ 1000
 r1 : 1 ≤ p.rows
 r2 : p.rows ≤ 1000
 len : p.ls.length = p.rows * p.cols
 fine : ∀ l ∈ p.ls, Fine l ∧ l.length ≤ h
theorem PileS.Good.ok {h : Nat} {p : PileS} (g : p.Good h) (hh : h ≤ 400000) : p.Ok := ⟨g.c2, g.r2, g.len, fun l hl => ⟨(g.fine l hl).1, Nat.le_trans (g.fine l hl).2 hh⟩⟩
theorem mem_grid {α : Type} {cols rows : Nat} {f : Nat → Nat → α} {x : α} (h : x ∈ grid cols rows f) : ∃ c r, c < cols ∧ r < rows ∧ x = f c r := by
 simp only [grid, gridRow, List.mem_flatMap, List.mem_map, List.mem_range] at h
 obtain ⟨r, hr, c, hc, rfl⟩ := h
 exact ⟨c, r, hc, hr, rfl⟩
theorem stkAt_good {h : Nat} {ls : List (List Leaf)} (hf : ∀ l ∈ ls, Fine l ∧ l.length ≤ h) (i : Nat) : Fine (stkAt ls i) ∧ (stkAt ls i).length ≤ h := by
 by_cases hi : i < ls.length
 ·exact hf _ (List.mem_of_getElem? (stkAt_get hi))
 ·have : stkAt ls i = [] := by simp [stkAt, List.getD_eq_getElem?_getD, List.getElem?_eq_none (Nat.le_of_not_lt hi)]
  rw [this]; exact ⟨fun x hx => by simp at hx, by simp⟩
theorem fine_flip {l : List Leaf} (b : Bool) (h : Fine l) : Fine (l.reverse.map (flip b)) := fun x hx => by
 simp only [List.mem_map, List.mem_reverse] at hx
 obtain ⟨y, hy, rfl⟩ := hx
 obtain ⟨⟨a1, a2⟩, a3, a4⟩ := h y hy
 cases b <;> simp only [flip, Bool.false_eq_true, if_false, if_true] <;> omega
theorem fine_rnd {l : List Leaf} (h : Fine l) : Fine (l.map rnd1) := fun x hx => by
 simp only [List.mem_map] at hx
 obtain ⟨y, hy, rfl⟩ := hx
 obtain ⟨⟨a1, a2⟩, a3, a4⟩ := h y hy
 simp only [rnd1]; omega
theorem fine_app {l m : List Leaf} (h : Fine l) (k : Fine m) : Fine (l ++ m) := fun x hx => (List.mem_append.1 hx).elim (h x) (k x)
theorem foldP_good {h : Nat} {p : PileS} (g : p.Good h) {x : Fold} (he : foldErrS p x = 0) : (foldP p x).Good (2 * h) := by
 unfold foldP
 rw [if_neg (by simp [he])]
 by_cases h5 : x.kind = 5
 ·rw [if_pos h5]
  refine ⟨g.c1, g.c2, g.r1, g.r2, by simp [overG, grid_length], fun l hl => ?_⟩
  obtain ⟨c, r, _, _, rfl⟩ := mem_grid hl
  obtain ⟨f1, f2⟩ := stkAt_good g.fine (r * p.cols + (p.cols - 1 - c))
  exact ⟨fine_flip false f1, by simp; omega⟩
 rw [if_neg h5]
 by_cases h6 : x.kind = 6
 ·rw [if_pos h6]
  refine ⟨g.c1, g.c2, g.r1, g.r2, by simp [roundG, grid_length], fun l hl => ?_⟩
  obtain ⟨c, r, _, _, rfl⟩ := mem_grid hl
  obtain ⟨f1, f2⟩ := stkAt_good g.fine ((p.rows - 1 - r) * p.cols + (p.cols - 1 - c))
  exact ⟨fine_rnd f1, by simp; omega⟩
 rw [if_neg h6]
 have h56 : ¬ (x.kind = 5 ∨ x.kind = 6) := by omega
 unfold foldErrS at he
 simp only [h56, if_false, not_false_eq_true, true_and] at he
 by_cases hk : ¬ (1 ≤ x.kind ∧ x.kind ≤ 6)
 ·rw [if_pos hk] at he; omega
 rw [if_neg hk] at he
 by_cases hc : x.count < 1
 ·rw [if_pos hc] at he; omega
 rw [if_neg hc] at he
 by_cases hs : (foldSide p x : Int) - x.count < x.count
 ·rw [if_pos hs] at he; omega
 have hlaid : ∀ (rows back : Bool) (first along across : Nat), Fine (laidAt p.cols p.rows first rows back p.ls along across) ∧ (laidAt p.cols p.rows first rows back p.ls along across).length ≤ 2 * h := fun rows back first along across => by
  unfold laidAt
  simp only []
  generalize (if back = true then first - 1 - along else along) = a
  generalize (if rows = true then p.rows else p.cols) = side
  obtain ⟨f1, f2⟩ := stkAt_good g.fine (getAt back rows side p.cols (2 * first - 1 - a) across)
  obtain ⟨f3, f4⟩ := stkAt_good g.fine (getAt back rows side p.cols a across)
  split
  ·exact ⟨fine_app (fine_flip _ f1) f3, by simp; omega⟩
  ·exact ⟨f3, by omega⟩
 have h34 : foldSide p x = if x.kind = 3 ∨ x.kind = 4 then p.rows else p.cols := rfl
 have g1 := g.c1; have g2 := g.c2; have g3 := g.r1; have g4 := g.r2
 by_cases hr : x.kind = 3 ∨ x.kind = 4
 ·rw [if_pos hr] at h34
  simp only [hr, decide_true, if_true]
  refine ⟨g.c1, g.c2, ?_, ?_, by simp [laidG, grid_length], fun l hl => ?_⟩
  ·show 1 ≤ ((foldSide p x : Int) - x.count).toNat; omega
  ·show ((foldSide p x : Int) - x.count).toNat ≤ 1000; omega
  ·simp only [laidG, if_true] at hl
   obtain ⟨c, r, _, _, rfl⟩ := mem_grid hl
   exact hlaid _ _ _ _ _
 ·rw [if_neg hr] at h34
  simp only [hr, decide_false, Bool.false_eq_true, if_false]
  refine ⟨?_, ?_, g.r1, g.r2, by simp [laidG, grid_length], fun l hl => ?_⟩
  ·show 1 ≤ ((foldSide p x : Int) - x.count).toNat; omega
  ·show ((foldSide p x : Int) - x.count).toNat ≤ 1000; omega
  ·simp only [laidG, Bool.false_eq_true, if_false] at hl
   obtain ⟨c, r, _, _, rfl⟩ := mem_grid hl
   exact hlaid _ _ _ _ _
/-- folds one by one, till one is wrong. -/
def foldRun : PileS → Nat → List Fold → PileS × Option (Nat × Int)
 | p, _, [] => (p, none)
 | p, i, x :: l => if foldErrS p x ≠ 0 then (foldP p x, some (i, foldErrS p x)) else foldRun (foldP p x) (i + 1) l
def flatP (c r : Nat) : PileS := ⟨c, r, flatG c r⟩
theorem flatP_good {c r : Nat} (hc : 1 ≤ c) (hc2 : c ≤ 1000) (hr : 1 ≤ r) (hr2 : r ≤ 1000) : (flatP c r).Good 1 := ⟨hc, hc2, hr, hr2, by simp [flatP, flatG, grid_length], fun l hl => by
 simp only [flatP, flatG] at hl
 obtain ⟨a, b, _, _, rfl⟩ := mem_grid hl
 exact ⟨fun x hx => by simp only [oneL, List.mem_singleton] at hx; subst hx; simp, by simp [oneL]⟩⟩
def foldedS (c r : Int) (l : List Fold) : List Leaf × Int × Int :=
 if sheetErr c r ≠ 0 then ([], 0, sheetErr c r) else if 12 < l.length then ([], 0, 8) else
 match foldRun (flatP c.toNat r.toNat) 0 l with
 | (_, some (i, e)) => ([], i, e)
 | (p, none) => if 1 < p.ls.length then ([], l.length, 25) else (p.ls.headD [], 0, 0)
/-- counts are numbers of the machine. -/
def Cnt (l : List Fold) : Prop := ∀ x ∈ l, -9223372036854775808 ≤ x.count ∧ x.count ≤ 9223372036854775807
theorem folded_s (b : Bool) (c r : Int) (l : List Fold) (hl : Cnt l) : Ctr Tryz.prog 29 [.agg [(.v (.int .i64 c)), (.v (.int .i64 r))], .sl b 2 (l.map eF)] (fun rr => rr = ⟨.tup [.sl true 4 ((foldedS c r l).1.map eL), (.v (.int .i64 ((foldedS c r l).2.1))), (.v (.int .i64 ((foldedS c r l).2.2)))], []⟩) := by
 refine Ctr.of (rs := [.tmp 4, .tmp 5, .tmp 6]) Tok true Tryz.func29 rfl rfl rfl rfl (by simp [ofDL]) (fun w0 kp => ?_)
 simp only [↓sx0, sxE, encs, sevalprocAttr]
 repeat ((with_reducible refine Vc.go ?_ fun _ => ?_); (focus (first | omega | (simp only [InK]; omega) | (simp [InK]; done) | (simp [InK]; omega))); simp only [↓sx0, sxE, encs, sevalprocAttr])
 refine CallI.fn (checkSheet_s c r) (by simp only [sx3, encs, sxR, sevalprocAttr] <;> (try simp) <;> (try rfl)) ?_
 simp only [↓sx0, sxE, encs, sevalprocAttr]
 refine BrW.dec (fun he => ?_) (fun he => ?_)
 ·simp only [↓sx0, sxE, encs, sevalprocAttr]
  refine EndW.fn ?_ ?_ <;> simp only [sx4, encs, kpLL_map, sxR, sevalprocAttr] <;> (try simp [foldedS, he]) <;> (try omega)
 ·simp only [↓sx0, sxE, encs, sevalprocAttr]
  have hsh : 1 ≤ c ∧ c ≤ 8 ∧ 1 ≤ r ∧ r ≤ 8 := by
   have he2 : sheetErr c r = 0 := by simpa using he
   unfold sheetErr at he2
   by_cases h1 : 1 ≤ c ∧ c ≤ 8
   ·rw [if_pos h1] at he2
    by_cases h2 : 1 ≤ r ∧ r ≤ 8
    ·omega
    ·rw [if_neg h2] at he2; omega
   ·rw [if_neg h1] at he2; omega
  refine BrW.dec (fun hlen => ?_) (fun hlen => ?_)
  ·simp only [↓sx0, sxE, encs, sevalprocAttr]
   have : 12 < l.length := by omega
   refine EndW.fn ?_ ?_ <;> simp only [sx4, encs, kpLL_map, sxR, sevalprocAttr] <;> (try simp [foldedS, he, this]) <;> (try omega)
  ·simp only [↓sx0, sxE, encs, sevalprocAttr]
   have hlen2 : ¬ 12 < l.length := by omega
   obtain ⟨cn, rfl⟩ : ∃ cn : Nat, c = cn := ⟨c.toNat, by omega⟩
   obtain ⟨rn, rfl⟩ : ∃ rn : Nat, r = rn := ⟨r.toNat, by omega⟩
   repeat ((with_reducible refine Vc.go ?_ fun _ => ?_); (focus (first | omega | (simp only [InK]; omega) | (simp [InK]; done) | (simp [InK]; omega))); simp only [↓sx0, sxE, encs, sevalprocAttr])
   refine CallI.fn (flat_s cn rn (by omega) (by omega)) (by simp only [sx3, encs, sxR, sevalprocAttr] <;> (try simp) <;> (try rfl)) ?_
   simp only [↓sx0, sxE, encs, sevalprocAttr]
   refine LoopW.comp [1, 8, 28, 29, 30] (by simp only [sx2, encs, sxR, sevalprocAttr] <;> (try simp) <;> (try omega)) ?_
   simp only [sx2, sxR, sevalprocAttr]
   refine LoopW.up Tok (fun x : Nat × PileS => [(30, (.v (.int .i64 x.1)))]) (fun x => [(1, [(.v (.int .i64 x.2.cols)), (.v (.int .i64 x.2.rows)), .sl true 1 (x.2.ls.map eK)])]) (fun x => []) (fun x => []) (fun x => x.1 ≤ l.length ∧ x.2.Good (2 ^ x.1) ∧ foldRun (flatP cn rn) 0 l = foldRun x.2 x.1 (l.drop x.1)) (fun x => l.length - x.1) ((0, flatP cn rn)) (by simp only [sx2, encs, sxR, sevalprocAttr] <;> (try simp [flatP, encs]) <;> (try omega)) ?_ ?_
   ·exact ⟨by simp, flatP_good (by omega) (by omega) (by omega) (by omega), rfl⟩
   rintro ⟨k, p⟩ ⟨hk, hg, hrun⟩
   simp only [] at hk hg hrun
   have h2k : (2 : Nat) ^ k ≤ 2 ^ 12 := Nat.pow_le_pow_right (by omega) (by omega)
   simp only [↓sx0, sxE, encs, sevalprocAttr]
   refine BrW.dec (fun hlt => ?_) (fun hlt => ?_)
   ·simp only [↓sx0, sxE, encs, sevalprocAttr]
    have hk' : k < l.length := by omega
    rw [List.drop_eq_getElem_cons hk'] at hrun
    simp only [foldRun] at hrun
    refine IxW.nat hk' ?_
    simp only [↓sx0, sxE, encs, sevalprocAttr]
    refine CallI.fn (fold_s p (hg.ok (by omega)) l[k] (hl _ (List.getElem_mem hk'))) (by simp only [sx3, encs, sxR, sevalprocAttr] <;> (try simp) <;> (try rfl)) ?_
    simp only [↓sx0, sxE, encs, sevalprocAttr]
    refine BrW.dec (fun herr => ?_) (fun herr => ?_)
    ·simp only [↓sx0, sxE, encs, sevalprocAttr]
     rw [if_pos (by simpa using herr)] at hrun
     refine EndW.fn ?_ ?_ <;> simp only [sx4, encs, kpLL_map, sxR, sevalprocAttr] <;> (try simp [foldedS, he, hlen2, hrun]) <;> (try omega)
    ·simp only [↓sx0, sxE, encs, sevalprocAttr]
     have h0 : foldErrS p l[k] = 0 := by simpa using herr
     rw [if_neg (by simp [h0])] at hrun
     (with_reducible refine Vc.go ?_ fun _ => ?_); focus (first | omega | (simp only [InK]; omega) | (simp [InK]; done) | (simp [InK]; omega))
     simp only [↓sx0, sxE, encs, sevalprocAttr]
     refine ⟨(k + 1, foldP p l[k]), StLe.auto (by simp only [sx2, encs, sxR, sevalprocAttr] <;> (try simp) <;> (try omega)), ?_, ?_⟩
     ·exact ⟨hk', by have := foldP_good hg h0; rwa [Nat.pow_succ, Nat.mul_comm] , hrun⟩
     ·show l.length - (k + 1) < l.length - k; omega
   ·simp only [↓sx0, sxE, encs, sevalprocAttr]
    have hke : k = l.length := by omega
    subst hke
    rw [List.drop_length] at hrun
    simp only [foldRun] at hrun
    have hpl := hg.len
    have hpos : 1 * 1 ≤ p.rows * p.cols := Nat.mul_le_mul hg.r1 hg.c1
    refine BrW.dec (fun hop => ?_) (fun hop => ?_)
    ·simp only [↓sx0, sxE, encs, sevalprocAttr]
     have : 1 < p.ls.length := by omega
     refine EndW.fn ?_ ?_ <;> simp only [sx4, encs, kpLL_map, sxR, sevalprocAttr] <;> (try simp [foldedS, he, hlen2, hrun, this]) <;> (try omega)
    ·simp only [↓sx0, sxE, encs, sevalprocAttr]
     have h1 : ¬ 1 < p.ls.length := by omega
     obtain ⟨s, hs⟩ : ∃ s, p.ls = [s] := by
      match hp : p.ls with
      | [] => rw [hp] at hpl; simp at hpl; omega
      | [s] => exact ⟨s, rfl⟩
      | _ :: _ :: _ => rw [hp] at h1; simp at h1
     refine IxW.map s (by omega) (by simp [hs]) ?_
     simp only [↓sx0, sxE, encs, sevalprocAttr]
     refine EndW.fn ?_ ?_ <;> simp only [sx4, encs, kpLL_map, sxR, sevalprocAttr] <;> (try simp [foldedS, he, hlen2, hrun, h1, hs, kpL, kpD]) <;> (try omega)
end Go.Proofs.YtgiegokdcmkfeaaGreatDoor
/-
 Chapter 6, walks: comparing and copying.
-/
namespace Go.Proofs.YtgiegokdcmkfeaaGreatDoor
open Go Go.Vx
set_option maxRecDepth 20000
theorem sameFolds_s (b b' : Bool) (l m : List Fold) (hl : l.length ≤ 1000000000) : Ctr Tryz.prog 14 [.sl b 2 (l.map eF), .sl b' 2 (m.map eF)] (fun rr => rr = ⟨(.v (.bool (decide (l = m)))), []⟩) := by
 refine Ctr.of (rs := [.tmp 4]) Tok true Tryz.func14 rfl rfl rfl rfl (by simp [ofDL]) (fun w0 kp => ?_)
 simp only [↓sx0, sxE, encs, sevalprocAttr]
 refine BrW.dec (fun hn => ?_) (fun hn => ?_)
 ·simp only [↓sx0, sxE, encs, sevalprocAttr]
  have : ¬ l = m := fun h => hn (by rw [h])
  refine EndW.fn ?_ ?_ <;> simp only [sx4, encs, kpLL_map, sxR, sevalprocAttr] <;> (try simp [this]) <;> (try omega)
 ·simp only [↓sx0, sxE, encs, sevalprocAttr]
  have hn2 : l.length = m.length := by omega
  refine LoopW.comp [0, 1, 5] (by simp only [sx2, encs, sxR, sevalprocAttr] <;> (try simp) <;> (try omega)) ?_
  simp only [sx2, sxR, sevalprocAttr]
  refine LoopW.up Tok (fun k : Nat => [(5, (.v (.int .i64 k)))]) (fun k => []) (fun k => []) (fun k => []) (fun k => k ≤ l.length ∧ l.take k = m.take k) (fun k => l.length - k) (0) (by simp only [sx2, encs, sxR, sevalprocAttr] <;> (try simp) <;> (try omega)) ?_ ?_
  ·exact ⟨by omega, by simp⟩
  rintro k ⟨hk, ht⟩
  simp only [↓sx0, sxE, encs, sevalprocAttr]
  refine BrW.dec (fun hlt => ?_) (fun hlt => ?_)
  ·simp only [↓sx0, sxE, encs, sevalprocAttr]
   have h1 : k < l.length := by omega
   have h2 : k < m.length := by omega
   refine DrawW.plan Tok mixed (.q 0 <| .q 1 <| .q 2 <| .q 3 <| .q 4 <| .q 5 <| .q 6 <| .q 7 <| .q 8 <| .done) (by kernel_rfl) (by kernel_rfl) ?_
   simp only [↓sx0, sxE, encs, sevalprocAttr]
   refine IxW.nat h1 ?_
   simp only [↓sx0, sxE, encs, sevalprocAttr]
   refine IxW.nat h2 ?_
   simp only [↓sx0, sxE, encs, sevalprocAttr]
   refine BrW.dec (fun hne => ?_) (fun hne => ?_)
   ·simp only [↓sx0, sxE, encs, sevalprocAttr]
    have : ¬ l = m := fun h => hne (by subst h; rfl)
    refine EndW.fn ?_ ?_ <;> simp only [sx4, encs, kpLL_map, sxR, sevalprocAttr] <;> (try simp [this]) <;> (try omega)
   ·simp only [↓sx0, sxE, encs, sevalprocAttr]
    have he : l[k] = m[k] := by rw [eF_inj] at hne; exact Decidable.not_not.1 hne
    (with_reducible refine Vc.go ?_ fun _ => ?_); focus (first | omega | (simp only [InK]; omega) | (simp [InK]; done) | (simp [InK]; omega))
    simp only [↓sx0, sxE, encs, sevalprocAttr]
    refine ⟨k + 1, StLe.auto (by simp only [sx2, encs, sxR, sevalprocAttr] <;> (try simp) <;> (try omega)), ?_, ?_⟩
    ·exact ⟨h1, take_eq_succ h1 h2 ht he⟩
    ·omega
  ·simp only [↓sx0, sxE, encs, sevalprocAttr]
   have hke : k = l.length := by omega
   subst hke
   rw [List.take_length, hn2, List.take_length] at ht
   refine EndW.fn ?_ ?_ <;> simp only [sx4, encs, kpLL_map, sxR, sevalprocAttr] <;> (try simp [ht]) <;> (try omega)
theorem copy_s (b : Bool) (c r : Int) (l : List Cell) (hl : l.length ≤ 1000000000) : Ctr Tryz.prog 9 [.agg [(.v (.int .i64 c)), (.v (.int .i64 r)), .sl b 4 (l.map eC)]] (fun rr => rr = ⟨.agg [(.v (.int .i64 c)), (.v (.int .i64 r)), .row 0], [.own 63 4 (l.map eC)]⟩) := by
 refine Ctr.of (rs := [.cell 2 29]) Tok false Tryz.func9 rfl rfl rfl rfl (by simp [ofDL]) (fun w0 kp => ?_)
 simp only [↓sx0, sxE, encs, sevalprocAttr]
 (with_reducible refine Vc.go ?_ fun _ => ?_); focus (first | omega | (simp only [InK]; omega) | (simp [InK]; done) | (simp [InK]; omega))
 simp only [↓sx0, sxE, encs, sevalprocAttr]
 exact EndW.r [some 1] (by simp) (by simp only [sx4, sxF, encs, kpLL_map, sxR, sevalprocAttr] <;> simp [kpL, kpD]) (by simp only [sx4, sxF, encs, kpLL_map, sxR, sevalprocAttr] <;> simp [kpL, kpD]) (by simp only [sx4, sxF, encs, kpLL_map, sxR, sevalprocAttr] <;> simp [kpL, kpD]) (by simp only [sx4, sxF, encs, kpLL_map, sxR, sevalprocAttr] <;> simp [kpL, kpD])
theorem quarto_s : Ctr Tryz.prog 26 [] (fun rr => rr = ⟨.sl true 2 ([(⟨1, 1⟩ : Fold), ⟨3, 1⟩].map eF), []⟩) := by
 refine Ctr.of (rs := [.tmp 0]) Tok true Tryz.func26 rfl rfl rfl rfl (by simp [ofDL]) (fun w0 kp => ?_)
 simp only [↓sx0, sxE, encs, sevalprocAttr]
 refine EndW.fn ?_ ?_ <;> simp only [sx4, encs, kpLL_map, sxR, sevalprocAttr] <;> (try simp [kpL, kpD]) <;> (try omega)
theorem withinB_s (n lo hi : Int) : Ctr Tryz.prog 60 [(.v (.int .i64 n)), (.v (.int .i64 lo)), (.v (.int .i64 hi))] (fun rr => rr = ⟨(.v (.bool (decide (lo ≤ n ∧ n ≤ hi)))), []⟩) := by
 refine Ctr.of (rs := [.tmp 6]) Tok true Tryz.func60 rfl rfl rfl rfl (by simp [ofDL]) (fun w0 kp => ?_)
 simp only [↓sx0, sxE, encs, sevalprocAttr]
 refine BrW.dec (fun h => ?_) (fun h => ?_)
 ·simp only [↓sx0, sxE, encs, sevalprocAttr]
  refine EndW.fn ?_ ?_ <;> simp only [sx4, encs, kpLL_map, sxR, sevalprocAttr] <;> (try simp [h]) <;> (try omega)
 ·simp only [↓sx0, sxE, encs, sevalprocAttr]
  refine EndW.fn ?_ ?_ <;> simp only [sx4, encs, kpLL_map, sxR, sevalprocAttr] <;> (try simp [h]) <;> (try omega)
end Go.Proofs.YtgiegokdcmkfeaaGreatDoor
/-
 Chapter 6, walks: creep and marks.
-/
namespace Go.Proofs.YtgiegokdcmkfeaaGreatDoor
open Go Go.Vx
set_option maxRecDepth 20000
def creepS (leaves th page : Int) : Int × Int :=
 if 1 ≤ leaves ∧ leaves ≤ 64 then if 0 ≤ th ∧ th ≤ 10000 then if 1 ≤ page ∧ page ≤ 2 * leaves then (min ((page - 1).tdiv 2) (leaves - 1 - (page - 1).tdiv 2) * th, 0) else (0, 2) else (0, 2) else (0, 2)
def markS (s sp m : Int) : Int × Int :=
 if 0 ≤ s ∧ s ≤ 4000 then if 1 ≤ sp ∧ sp ≤ 4000 then if 1 ≤ m ∧ m ≤ sp then (s.tmod (sp.tdiv m) * m, 0) else (0, 2) else (0, 2) else (0, 2)
def misK : List Int → Nat → Int × Int
 | [], _ => (0, 12)
 | n :: l, k => if n = k then misK l (k + 1) else (k, 0)
def misS (l : List Int) : Int × Int := if 1 ≤ l.length ∧ l.length ≤ 4000 then if ∀ n ∈ l, 0 ≤ n ∧ n ≤ 4000 then misK l 0 else (0, 2) else (0, 10)
end Go.Proofs.YtgiegokdcmkfeaaGreatDoor
/-
 Chapter 6, walks: books.
-/
namespace Go.Proofs.YtgiegokdcmkfeaaGreatDoor
open Go Go.Vx
set_option maxRecDepth 20000
structure Book where
 pages : Int
 per : Int
 plates : List Int
 cancels : List Int
/-- the first number of a list that is out of range, or not behind the one ahead of it. -/
def badO (st : Bool) : Option Int → Int → Bool
 | none, _ => false
 | some q, n => if st then decide (n ≤ q) else decide (n < q)
def scanO (lo hi : Int) (st : Bool) : Option Int → Nat → List Int → Option (Nat × Int)
 | _, _, [] => none
 | p, k, n :: l => if ¬ (lo ≤ n ∧ n ≤ hi) then some (k, 2) else if badO st p n = true then some (k, 9) else scanO lo hi st (some n) (k + 1) l
def prevK (l : List Int) : Nat → Option Int
 | 0 => none
 | k + 1 => l[k]?
def bookS (b : Book) : Int × Int :=
 if ¬ (1 ≤ b.pages ∧ b.pages ≤ 4000) then (0, 2) else if ¬ (2 ≤ b.per ∧ b.per ≤ 64) then (0, 2) else if b.per.tmod 2 ≠ 0 then (0, 3) else if 40 < b.plates.length then (0, 8) else
 match scanO 0 b.pages false none 0 b.plates with
 | some (k, e) => (k, e)
 | none => if 40 < b.cancels.length then (0, 8) else
  match scanO 1 b.pages true none 0 b.cancels with
  | some (k, e) => (k, e)
  | none => (0, 0)
end Go.Proofs.YtgiegokdcmkfeaaGreatDoor
/-
 Chapter 6, walks: signatures.
-/
namespace Go.Proofs.YtgiegokdcmkfeaaGreatDoor
open Go Go.Vx
set_option maxRecDepth 20000
def sigE (P Q k : Nat) : Rng := ⟨1 + (k : Int) * Q, min (1 + (k : Int) * Q + Q - 1) P⟩
def sigL (P Q k : Nat) : List Rng := (List.range k).map (sigE P Q)
def sigN (P Q : Nat) : Nat := (P + Q - 1) / Q
def sigS (b : Book) : List Rng × Int × Int :=
 if (bookS b).2 ≠ 0 then ([], 0, (bookS b).2) else (sigL b.pages.toNat b.per.toNat (sigN b.pages.toNat b.per.toNat), (sigN b.pages.toNat b.per.toNat : Int) * b.per.toNat - b.pages.toNat, 0)
end Go.Proofs.YtgiegokdcmkfeaaGreatDoor
/-
 Chapter 6, walks: schemes of folds.
-/
namespace Go.Proofs.YtgiegokdcmkfeaaGreatDoor
open Go Go.Vx
set_option maxRecDepth 20000
/-- all leaves are so. -/
def allP (P : Leaf → Prop) (ls : List (List Leaf)) : Prop := ∀ l ∈ ls, ∀ y ∈ l, P y
theorem allP_stk {P : Leaf → Prop} {ls : List (List Leaf)} (h : allP P ls) (i : Nat) : ∀ y ∈ stkAt ls i, P y := by
 by_cases hi : i < ls.length
 ·exact h _ (List.mem_of_getElem? (stkAt_get hi))
 ·have : stkAt ls i = [] := by simp [stkAt, List.getD_eq_getElem?_getD, List.getElem?_eq_none (Nat.le_of_not_lt hi)]
  rw [this]; simp
theorem allP_fold {P : Leaf → Prop} (h1 : ∀ b y, P y → P (flip b y)) (h2 : ∀ y, P y → P (rnd1 y)) {p : PileS} (h : allP P p.ls) (x : Fold) : allP P (foldP p x).ls := by
 have hf : ∀ b i, ∀ y ∈ (stkAt p.ls i).reverse.map (flip b), P y := fun b i y hy => by
  simp only [List.mem_map, List.mem_reverse] at hy
  obtain ⟨z, hz, rfl⟩ := hy
  exact h1 b z (allP_stk h i z hz)
 have hlaid : ∀ (rows back : Bool) (first along across : Nat), ∀ y ∈ laidAt p.cols p.rows first rows back p.ls along across, P y := fun rows back first along across y hy => by
  unfold laidAt at hy
  simp only [] at hy
  generalize (if back = true then first - 1 - along else along) = a at hy
  generalize (if rows = true then p.rows else p.cols) = side at hy
  split at hy
  ·rcases List.mem_append.1 hy with hy | hy
   ·exact hf _ _ y hy
   ·exact allP_stk h _ y hy
  ·exact allP_stk h _ y hy
 unfold foldP
 by_cases he : foldErrS p x ≠ 0
 ·rw [if_pos he]; exact h
 rw [if_neg he]
 by_cases h5 : x.kind = 5
 ·rw [if_pos h5]
  intro l hl
  obtain ⟨c, r, _, _, rfl⟩ := mem_grid hl
  exact hf _ _
 rw [if_neg h5]
 by_cases h6 : x.kind = 6
 ·rw [if_pos h6]
  intro l hl
  obtain ⟨c, r, _, _, rfl⟩ := mem_grid hl
  intro y hy
  simp only [List.mem_map] at hy
  obtain ⟨z, hz, rfl⟩ := hy
  exact h2 z (allP_stk h _ z hz)
 rw [if_neg h6]
 intro l hl
 simp only [laidG] at hl
 split at hl
 ·obtain ⟨c, r, _, _, rfl⟩ := mem_grid hl
  exact hlaid _ _ _ _ _
 ·obtain ⟨c, r, _, _, rfl⟩ := mem_grid hl
  exact hlaid _ _ _ _ _
theorem allP_run {P : Leaf → Prop} (h1 : ∀ b y, P y → P (flip b y)) (h2 : ∀ y, P y → P (rnd1 y)) : ∀ (l : List Fold) (p : PileS) (k : Nat), allP P p.ls → allP P (foldRun p k l).1.ls
 | [], p, _, h => h
 | x :: l, p, k, h => by
  simp only [foldRun]
  split
  ·exact allP_fold h1 h2 h x
  ·exact allP_run h1 h2 l _ _ (allP_fold h1 h2 h x)
/-- leaves of a sheet. -/
def InS (c r : Int) (y : Leaf) : Prop := (0 ≤ y.col ∧ y.col < c) ∧ 0 ≤ y.row ∧ y.row < r
theorem folded_in (c r : Int) (l : List Fold) : ∀ y ∈ (foldedS c r l).1, InS c r y := by
 unfold foldedS
 split
 ·simp
 split
 ·simp
 have h0 : allP (InS c r) (flatP c.toNat r.toNat).ls := fun s hs y hy => by
  simp only [flatP, flatG] at hs
  obtain ⟨a, b, ha, hb, rfl⟩ := mem_grid hs
  simp only [oneL, List.mem_singleton] at hy
  subst hy
  simp only [InS]; omega
 have h := allP_run (P := InS c r) (fun b y hy => by simpa only [InS, flip] using hy) (fun y hy => by simpa only [InS, rnd1] using hy) l _ 0 h0
 split
 ·simp
 ·rename_i p hp
  rw [hp] at h
  split
  ·simp
  ·intro y hy
   cases hls : p.ls with
   | nil => rw [hls] at hy; simp at hy
   | cons s m => rw [hls] at hy; exact h s (by simp [hls]) y hy
def cellAt (i : Nat) (x : Leaf) : Cell := if x.over = 1 then ⟨2 * (i : Int) + 2, x.round, 2 * (i : Int) + 1, x.round⟩ else ⟨2 * (i : Int) + 1, x.round, 2 * (i : Int) + 2, x.round⟩
def schemeK (cols : Int) : List Cell → Nat → List Leaf → List Cell
 | cs, _, [] => cs
 | cs, i, x :: l => schemeK cols (cs.set (x.row * cols + x.col).toNat (cellAt i x)) (i + 1) l
def zeroC : Cell := ⟨0, 0, 0, 0⟩
/-- columns, rows, cells, and the error. -/
def schemeS (c r : Int) (l : List Fold) : Int × Int × List Cell × Int :=
 if (foldedS c r l).2.2 ≠ 0 then (0, 0, [], (foldedS c r l).2.2) else (c, r, schemeK c (List.replicate (c * r).toNat zeroC) 0 (foldedS c r l).1, 0)
theorem folded_sheet {c r : Int} {l : List Fold} (h : (foldedS c r l).2.2 = 0) : 1 ≤ c ∧ c ≤ 8 ∧ 1 ≤ r ∧ r ≤ 8 ∧ sheetErr c r = 0 := by
 have he : sheetErr c r = 0 := by
  unfold foldedS at h
  by_cases he : sheetErr c r = 0
  ·exact he
  ·rw [if_pos he] at h; exact h
 have he2 := he
 unfold sheetErr at he2
 by_cases h1 : 1 ≤ c ∧ c ≤ 8
 ·rw [if_pos h1] at he2
  by_cases h2 : 1 ≤ r ∧ r ≤ 8
  ·exact ⟨h1.1, h1.2, h2.1, h2.2, he⟩
  ·rw [if_neg h2] at he2; omega
 ·rw [if_neg h1] at he2; omega
theorem foldRun_good : ∀ (l : List Fold) (p : PileS) (k h : Nat), p.Good h → (foldRun p k l).2 = none → (foldRun p k l).1.Good (2 ^ l.length * h)
 | [], p, k, h, hg, _ => by simpa [foldRun] using hg
 | x :: l, p, k, h, hg, hn => by
  simp only [foldRun] at hn ⊢
  by_cases he : foldErrS p x ≠ 0
  ·rw [if_pos he] at hn; simp at hn
  ·rw [if_neg he] at hn ⊢
   have := foldRun_good l _ (k + 1) _ (foldP_good hg (Decidable.not_not.1 he)) hn
   rwa [← Nat.mul_assoc, ← Nat.pow_succ] at this
theorem folded_len (c r : Int) (l : List Fold) : (foldedS c r l).1.length ≤ 4096 := by
 unfold foldedS
 by_cases h0 : sheetErr c r ≠ 0
 ·rw [if_pos h0]; simp
 rw [if_neg h0]
 by_cases h1 : 12 < l.length
 ·rw [if_pos h1]; simp
 rw [if_neg h1]
 have hs : 1 ≤ c ∧ c ≤ 8 ∧ 1 ≤ r ∧ r ≤ 8 := by
  have he2 := Decidable.not_not.1 h0
  unfold sheetErr at he2
  by_cases h1 : 1 ≤ c ∧ c ≤ 8
  ·rw [if_pos h1] at he2
   by_cases h2 : 1 ≤ r ∧ r ≤ 8
   ·omega
   ·rw [if_neg h2] at he2; omega
  ·rw [if_neg h1] at he2; omega
 have hg := foldRun_good l (flatP c.toNat r.toNat) 0 1 (flatP_good (by omega) (by omega) (by omega) (by omega))
 split
 ·simp
 ·rename_i p hp
  rw [hp] at hg
  have hg := hg rfl
  split
  ·simp
  ·cases hls : p.ls with
   | nil => simp
   | cons s m =>
    have h3 := (hg.fine s (by simp [hls])).2
    have : (2 : Nat) ^ l.length ≤ 2 ^ 12 := Nat.pow_le_pow_right (by omega) (by omega)
    simp only [List.headD_cons]; omega
theorem scheme_s (b : Bool) (c r : Int) (f : List Fold) (hf : Cnt f) : Ctr Tryz.prog 7 [.agg [(.v (.int .i64 c)), (.v (.int .i64 r))], .sl b 2 (f.map eF)] (fun rr => rr = ⟨.tup [.agg [(.v (.int .i64 ((schemeS c r f).1))), (.v (.int .i64 ((schemeS c r f).2.1))), .sl true 4 ((schemeS c r f).2.2.1.map eC)], (.v (.int .i64 ((schemeS c r f).2.2.2)))], []⟩) := by
 have hin := folded_in c r f
 have hl4 := folded_len c r f
 refine Ctr.of (rs := [.cell 4 29, .tmp 5]) Tok true Tryz.func7 rfl rfl rfl rfl (by simp [ofDL]) (fun w0 kp => ?_)
 simp only [↓sx0, sxE, encs, sevalprocAttr]
 refine CallI.fn (folded_s b c r f hf) (by simp only [sx3, encs, sxR, sevalprocAttr] <;> (try simp) <;> (try rfl)) ?_
 simp only [↓sx0, sxE, encs, sevalprocAttr]
 refine BrW.dec (fun he => ?_) (fun he => ?_)
 ·simp only [↓sx0, sxE, encs, sevalprocAttr]
  refine EndW.fn ?_ ?_ <;> simp only [sx4, encs, kpLL_map, sxR, sevalprocAttr] <;> (try simp [schemeS, he]) <;> (try omega)
 ·obtain ⟨c1, c2, r1, r2, _⟩ := folded_sheet (Decidable.not_not.1 he)
  have hS : schemeS c r f = (c, r, schemeK c (List.replicate (c * r).toNat zeroC) 0 (foldedS c r f).1, 0) := by unfold schemeS; rw [if_neg he]
  generalize (foldedS c r f).1 = l at hin hS hl4
  obtain ⟨c, rfl⟩ : ∃ n : Nat, c = n := ⟨c.toNat, by omega⟩
  obtain ⟨r, rfl⟩ : ∃ n : Nat, r = n := ⟨r.toNat, by omega⟩
  have m1 : (c : Int) * r ≤ 8 * 8 := Int.mul_le_mul c2 r2 (by omega) (by omega)
  have m2 : 0 ≤ (c : Int) * r := Int.mul_nonneg (by omega) (by omega)
  simp only [↓sx0, sxE, encs, sevalprocAttr]
  refine DrawW.plan Tok mixed (.q 0 <| .q 1 <| .q 2 <| .q 3 <| .q 4 <| .q 5 <| .q 6 <| .q 7 <| .q 8 <| .e2 9 [1, 3] (.q 10 <| .e 11 [1, 3, 5, 7] <| .e 12 [] <| .done) 11 [1, 3, 5, 7] (.e 9 [1, 3] <| .q 10 <| .e 12 [] <| .done)) (by kernel_rfl) (by kernel_rfl) ?_
  simp only [↓sx0, sxE, encs, sevalprocAttr]
  repeat ((with_reducible refine Vc.go ?_ fun _ => ?_); (focus (first | omega | (simp only [InK]; omega) | (simp [InK]; done) | (simp [InK]; omega))); simp only [↓sx0, sxE, encs, sevalprocAttr])
  refine ⟨?_, ?_⟩
  all_goals
   repeat ((with_reducible refine Vc.go ?_ fun _ => ?_); (focus (first | omega | (simp only [InK]; omega) | (simp [InK]; done) | (simp [InK]; omega))); simp only [↓sx0, sxE, encs, sevalprocAttr])
   refine LoopW.comp [4, 9, 35, 36, 37] (by simp only [sx2, encs, sxR, sevalprocAttr] <;> (try simp) <;> (try omega)) ?_
   simp only [sx2, sxR, sevalprocAttr]
   refine LoopW.up Tok (fun x : Nat × List Cell => [(37, (.v (.int .i64 x.1)))]) (fun x => []) (fun x => [(0, x.2.map eC)]) (fun x => []) (fun x => x.1 ≤ l.length ∧ x.2.length = ((c : Int) * r).toNat ∧ schemeK c (List.replicate ((c : Int) * r).toNat zeroC) 0 l = schemeK c x.2 x.1 (l.drop x.1)) (fun x => l.length - x.1) ((0, List.replicate ((c : Int) * r).toNat zeroC)) (by simp only [sx2, encs, sxR, sevalprocAttr] <;> (try simp [eC, zeroC, encs]) <;> (try omega)) ?_ ?_
   ·exact ⟨by simp, by simp, by simp⟩
   rintro ⟨k, cs⟩ ⟨hk, hlen, hm⟩
   simp only [] at hk hlen hm
   simp only [↓sx0, sxE, encs, sevalprocAttr]
   refine BrW.dec (fun hlt => ?_) (fun hlt => ?_)
   ·have h1 : k < l.length := by omega
    rw [List.drop_eq_getElem_cons h1] at hm
    simp only [schemeK] at hm
    obtain ⟨⟨i1, i2⟩, i3, i4⟩ := hin l[k] (List.getElem_mem h1)
    have w1 : l[k].row * (c : Int) + (c : Int) ≤ (c : Int) * r := by
     have := Int.mul_le_mul_of_nonneg_right (show l[k].row + 1 ≤ (r : Int) by omega) (show (0 : Int) ≤ c by omega)
     rw [Int.add_mul, Int.one_mul, Int.mul_comm (r : Int)] at this; exact this
    have w2 : 0 ≤ l[k].row * (c : Int) := Int.mul_nonneg i3 (by omega)
    have hi : (l[k].row * (c : Int) + l[k].col).toNat < cs.length := by rw [hlen]; omega
    have hset : ∀ e : Cell, (cs.map eC).modify (l[k].row * (c : Int) + l[k].col).toNat (modE · 0 [.v (.int .i64 e.front), .v (.int .i64 e.fturn), .v (.int .i64 e.back), .v (.int .i64 e.bturn)]) = (cs.set (l[k].row * (c : Int) + l[k].col).toNat e).map eC := fun e => modify_map (List.getElem?_eq_getElem hi) e rfl
    have hset := hset (cellAt k l[k])
    unfold cellAt at hset
    simp only [↓sx0, sxE, encs, sevalprocAttr]
    refine IxW.nat h1 ?_
    simp only [↓sx0, sxE, encs, sevalprocAttr]
    repeat ((with_reducible refine Vc.go ?_ fun _ => ?_); (focus (first | omega | (simp only [InK]; omega) | (simp [InK]; done) | (simp [InK]; omega))); simp only [↓sx0, sxE, encs, sevalprocAttr])
    refine BrW.dec (fun ho => ?_) (fun ho => ?_)
    ·rw [if_pos ho] at hset
     have hca : cellAt k l[k] = ⟨2 * (k : Int) + 2, l[k].round, 2 * (k : Int) + 1, l[k].round⟩ := by unfold cellAt; rw [if_pos ho]
     simp only [↓sx0, sxE, encs, sevalprocAttr]
     repeat ((with_reducible refine Vc.go ?_ fun _ => ?_); (focus (first | omega | (simp only [InK]; omega) | (simp [hlen, InK]; done) | (simp [hlen, InK]; omega))); simp only [↓sx0, sxE, encs, sevalprocAttr])
     rw [hset, ← hca]
     refine ⟨(k + 1, cs.set (l[k].row * (c : Int) + l[k].col).toNat (cellAt k l[k])), StLe.auto (by simp only [sx2, encs, sxR, sevalprocAttr] <;> (try simp) <;> (try omega)), ?_, ?_⟩
     ·exact ⟨by show k + 1 ≤ l.length; omega, by simp [hlen], hm⟩
     ·show l.length - (k + 1) < l.length - k; omega
    ·rw [if_neg ho] at hset
     have hca : cellAt k l[k] = ⟨2 * (k : Int) + 1, l[k].round, 2 * (k : Int) + 2, l[k].round⟩ := by unfold cellAt; rw [if_neg ho]
     simp only [↓sx0, sxE, encs, sevalprocAttr]
     repeat ((with_reducible refine Vc.go ?_ fun _ => ?_); (focus (first | omega | (simp only [InK]; omega) | (simp [hlen, InK]; done) | (simp [hlen, InK]; omega))); simp only [↓sx0, sxE, encs, sevalprocAttr])
     rw [hset, ← hca]
     refine ⟨(k + 1, cs.set (l[k].row * (c : Int) + l[k].col).toNat (cellAt k l[k])), StLe.auto (by simp only [sx2, encs, sxR, sevalprocAttr] <;> (try simp) <;> (try omega)), ?_, ?_⟩
     ·exact ⟨by show k + 1 ≤ l.length; omega, by simp [hlen], hm⟩
     ·show l.length - (k + 1) < l.length - k; omega
   ·simp only [↓sx0, sxE, encs, sevalprocAttr]
    have hke : k = l.length := by omega
    subst hke
    rw [List.drop_length] at hm
    simp only [schemeK] at hm
    rw [hS, hm]
    refine EndW.fn ?_ ?_ <;> simp only [sx4, encs, kpLL_map, sxR, sevalprocAttr] <;> (try simp [kpL, kpD]) <;> (try omega)
end Go.Proofs.YtgiegokdcmkfeaaGreatDoor
