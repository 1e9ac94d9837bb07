/-
 Chapter 6, walks: slices of leaves.
-/
import Derived.Test.YteajjcbinnjgaaaGreatDoorVB6
import Derived.Test.YteajjcbinnjgaaaGreatDoorVRev
namespace Go.Proofs.YteajjcbinnjgaaaGreatDoor
open Go Go.Vx
set_option linter.unusedSimpArgs false
set_option maxRecDepth 20000
/-- slices.Clone at leaves. -/
theorem clone_s (b : Bool) (els : List (List D)) (hk : kpLL els) (hl : els.length ≤ 1000000) : Ctr Tryz.prog 123 [.sl b 4 els] (fun rr => rr = ⟨.row 0, [.own 116 4 els]⟩) := by
 refine Ctr.of (rs := [.tmp 2]) Tok false Tryz.func123 rfl rfl rfl rfl (by simp [ofDL]) (fun w0 kp => ?_)
 simp only [↓sx0, sxE, encs, sevalprocAttr]
 intro z hz
 refine BrW.of (fun h => ?_) (fun h => ?_)
 ·simp only [↓sx0, sxE, encs, sevalprocAttr]
  rw [hz h]
  exact EndW.r [none] (by simp) (by simp only [sx4, sxF, encs, kpLL_map, sxR, sevalprocAttr] <;> simp) (by simp only [sx4, sxF, encs, kpLL_map, sxR, sevalprocAttr] <;> simp) (by simp only [sx4, sxF, encs, kpLL_map, sxR, sevalprocAttr] <;> simp) (by simp only [sx4, sxF, encs, kpLL_map, sxR, sevalprocAttr] <;> simp)
 ·simp only [↓sx0, sxE, encs, sevalprocAttr]
  (with_reducible refine Vc.go ?_ fun _ => ?_); focus (first | omega | (simp only [InK]; omega) | (simp [InK]; done) | (simp [InK]; omega))
  simp only [↓sx0, sxE, encs, sevalprocAttr]
  exact EndW.r [some 1] (by simp) (by simp only [sx4, sxF, encs, kpLL_map, sxR, sevalprocAttr] <;> simp [hk]) (by simp only [sx4, sxF, encs, kpLL_map, sxR, sevalprocAttr] <;> simp [hk]) (by simp only [sx4, sxF, encs, kpLL_map, sxR, sevalprocAttr] <;> simp [hk]) (by simp only [sx4, sxF, encs, kpLL_map, sxR, sevalprocAttr] <;> simp [hk])
/-- slices.Grow at leaves, from nil. -/
theorem grow_s (n : Nat) (hn : n ≤ 1000000) : Ctr Tryz.prog 139 [.v (.slice none 0 0), (.v (.int .i64 n))] (fun rr => rr = ⟨.row 0, [.own 116 4 []]⟩) := by
 refine Ctr.of (rs := [.tmp 4]) Tok false Tryz.func139 rfl rfl rfl rfl (by simp [ofDL]) (fun w0 kp => ?_)
 simp only [↓sx0, sxE, encs, sevalprocAttr]
 refine BrW.no (by omega) ?_
 simp only [↓sx0, sxE, encs, sevalprocAttr]
 (with_reducible refine Vc.go ?_ fun _ => ?_); focus (first | omega | (simp only [InK]; omega) | (simp [InK]; done) | (simp [InK]; omega))
 simp only [↓sx0, sxE, encs, sevalprocAttr]
 (with_reducible refine Vc.go ?_ fun _ => ?_); focus (first | omega | (simp only [InK]; omega) | (simp [InK]; done) | (simp [InK]; omega))
 simp only [↓sx0, sxE, encs, sevalprocAttr]
 refine BrW.dec (fun h => ?_) (fun h => ?_)
 ·simp only [↓sx0, sxE, encs, sevalprocAttr]
  (with_reducible refine Vc.go ?_ fun _ => ?_); focus (first | omega | (simp only [InK]; omega) | (simp [InK]; done) | (simp [InK]; omega))
  simp only [↓sx0, sxE, encs, sevalprocAttr]
  (with_reducible refine Vc.go ?_ fun _ => ?_); focus (first | omega | (simp only [InK]; omega) | (simp [InK]; done) | (simp [InK]; omega))
  simp only [↓sx0, sxE, encs, sevalprocAttr]
  (with_reducible refine Vc.go ?_ fun _ => ?_); focus (first | omega | (simp only [InK]; omega) | (simp [InK]; done) | (simp [InK]; omega))
  simp only [↓sx0, sxE, encs, sevalprocAttr]
  exact EndW.r [some 1] (by simp) (by simp only [sx4, sxF, encs, kpLL_map, sxR, sevalprocAttr] <;> simp) (by simp only [sx4, sxF, encs, kpLL_map, sxR, sevalprocAttr] <;> simp) (by simp only [sx4, sxF, encs, kpLL_map, sxR, sevalprocAttr] <;> simp) (by simp only [sx4, sxF, encs, kpLL_map, sxR, sevalprocAttr] <;> simp)
 ·simp only [↓sx0, sxE, encs, sevalprocAttr]
  exact EndW.r [none] (by simp) (by simp only [sx4, sxF, encs, kpLL_map, sxR, sevalprocAttr] <;> simp) (by simp only [sx4, sxF, encs, kpLL_map, sxR, sevalprocAttr] <;> simp) (by simp only [sx4, sxF, encs, kpLL_map, sxR, sevalprocAttr] <;> simp) (by simp only [sx4, sxF, encs, kpLL_map, sxR, sevalprocAttr] <;> simp)
theorem lens_take {α : Type} {ls : List (List α)} {k : Nat} (h : k < ls.length) : (ls.take (k + 1)).flatten = (ls.take k).flatten ++ ls[k] := by
 rw [List.take_succ_eq_append_getElem h, List.flatten_append]; simp only [List.flatten_cons, List.flatten_nil, List.append_nil]
theorem lens_le {α : Type} (ls : List (List α)) (k : Nat) : (ls.take k).flatten.length ≤ ls.flatten.length := by
 conv => rhs; rw [← List.take_append_drop k ls, List.flatten_append, List.length_append]
 omega
/-- slices.Concat at leaves. -/
theorem concat_s (b : Bool) (ls : List (List Leaf)) (hn : ls.length ≤ 1000) (hl : ls.flatten.length ≤ 1000000) :
  Ctr Tryz.prog 126 [.sl b 1 (ls.map eK)] (fun rr => rr = ⟨.row 0, [.own 116 4 (ls.flatten.map eL)]⟩) := by
 refine Ctr.of (rs := [.tmp 2]) Tok false Tryz.func126 rfl rfl rfl rfl (by simp [ofDL]) (fun w0 kp => ?_)
 simp only [↓sx0, sxE, encs, sevalprocAttr]
 refine LoopW.comp [0, 3, 9, 10, 11] (by simp only [sx2, encs, sxR, sevalprocAttr] <;> (try simp) <;> (try omega)) ?_
 simp only [sx2, sxR, sevalprocAttr]
 refine LoopW.up Tok (fun k : Nat => [(3, (.v (.int .i64 ((ls.take k).flatten.length)))), (11, (.v (.int .i64 k)))]) (fun k => []) (fun k => []) (fun k => []) (fun k => k ≤ ls.length) (fun k => ls.length - k) (0) (by simp only [sx2, encs, sxR, sevalprocAttr] <;> (try simp) <;> (try omega)) ?_ ?_
 ·omega
 rintro k hk
 have hb := lens_le ls k
 simp only [↓sx0, sxE, encs, sevalprocAttr]
 refine BrW.dec (fun hlt => ?_) (fun hlt => ?_)
 ·simp only [↓sx0, sxE, encs, sevalprocAttr]
  have hk' : k < ls.length := by omega
  have hb2 := lens_le ls (k + 1)
  rw [lens_take hk', List.length_append] at hb2
  refine IxW.nat hk' ?_
  simp only [↓sx0, sxE, encs, sevalprocAttr]
  (with_reducible refine Vc.go ?_ fun _ => ?_); focus (first | omega | (simp only [InK]; omega) | (simp [InK]; done) | (simp [InK]; omega))
  simp only [↓sx0, sxE, encs, sevalprocAttr]
  refine BrW.no (by omega) ?_
  simp only [↓sx0, sxE, encs, sevalprocAttr]
  (with_reducible refine Vc.go ?_ fun _ => ?_); focus (first | omega | (simp only [InK]; omega) | (simp [InK]; done) | (simp [InK]; omega))
  simp only [↓sx0, sxE, encs, sevalprocAttr]
  refine ⟨k + 1, StLe.auto (by simp only [sx2, encs, sxR, sevalprocAttr] <;> (try simp [lens_take hk', encs]) <;> (try omega)), ?_, ?_⟩
  ·omega
  ·omega
 ·simp only [↓sx0, sxE, encs, sevalprocAttr]
  have hke : k = ls.length := by omega
  subst hke
  rw [List.take_length]
  refine CallI.ctr (grow_s ls.flatten.length hl) (by simp only [sx3, encs, sxR, sevalprocAttr] <;> (try simp) <;> (try rfl)) ?_
  rintro _ rfl
  simp only [↓sx0, sxE, encs, sevalprocAttr]
  refine LoopW.comp [6, 25, 26, 27] (by simp only [sx2, encs, sxR, sevalprocAttr] <;> (try simp) <;> (try omega)) ?_
  simp only [sx2, sxR, sevalprocAttr]
  refine LoopW.up Tok (fun k : Nat => [(27, (.v (.int .i64 k)))]) (fun k => []) (fun k => [(0, (ls.take k).flatten.map eL)]) (fun k => []) (fun k => k ≤ ls.length) (fun k => ls.length - k) (0) (by simp only [sx2, encs, sxR, sevalprocAttr] <;> (try simp) <;> (try omega)) ?_ ?_
  ·omega
  rintro k hk
  have hb := lens_le ls k
  simp only [↓sx0, sxE, encs, sevalprocAttr]
  refine BrW.dec (fun hlt => ?_) (fun hlt => ?_)
  ·simp only [↓sx0, sxE, encs, sevalprocAttr]
   have hk' : k < ls.length := by omega
   have hb2 := lens_le ls (k + 1)
   rw [lens_take hk', List.length_append] at hb2
   refine IxW.nat hk' ?_
   simp only [↓sx0, sxE, encs, sevalprocAttr]
   (with_reducible refine Vc.go ?_ fun _ => ?_); focus (first | omega | (simp only [InK]; omega) | (simp [InK]; done) | (simp [InK]; omega))
   simp only [↓sx0, sxE, encs, sevalprocAttr]
   (with_reducible refine Vc.go ?_ fun _ => ?_); focus (first | omega | (simp only [InK]; omega) | (simp [InK]; done) | (simp [InK]; omega))
   simp only [↓sx0, sxE, encs, sevalprocAttr]
   refine ⟨k + 1, StLe.auto (by simp only [sx2, encs, sxR, sevalprocAttr] <;> (try simp [lens_take hk', encs]) <;> (try omega)), ?_, ?_⟩
   ·omega
   ·omega
  ·simp only [↓sx0, sxE, encs, sevalprocAttr]
   have hke : k = ls.length := by omega
   subst hke
   rw [List.take_length]
   exact EndW.r [some 0] (by simp) (by simp only [sx4, sxF, encs, kpLL_map, sxR, sevalprocAttr] <;> simp [kpLL_map, encs, kpL, kpD]) (by simp only [sx4, sxF, encs, kpLL_map, sxR, sevalprocAttr] <;> simp [kpLL_map, encs, kpL, kpD]) (by simp only [sx4, sxF, encs, kpLL_map, sxR, sevalprocAttr] <;> simp [kpLL_map, encs, kpL, kpD]) (by simp only [sx4, sxF, encs, kpLL_map, sxR, sevalprocAttr] <;> simp [kpLL_map, encs, kpL, kpD])
end Go.Proofs.YteajjcbinnjgaaaGreatDoor
/-
 Chapter 6, walks: stacks turned.
-/
namespace Go.Proofs.YteajjcbinnjgaaaGreatDoor
open Go Go.Vx
set_option linter.unusedSimpArgs false
set_option maxRecDepth 20000
def flip (rnd : Bool) (l : Leaf) : Leaf := ⟨l.col, l.row, 1 - l.over, if rnd then 1 - l.round else l.round⟩
def rnd1 (l : Leaf) : Leaf := ⟨l.col, l.row, l.over, 1 - l.round⟩
def ovr1 (l : Leaf) : Leaf := ⟨l.col, l.row, 1 - l.over, l.round⟩
/-- turns are turns. -/
def Fine (l : List Leaf) : Prop := ∀ x ∈ l, (0 ≤ x.over ∧ x.over ≤ 1) ∧ 0 ≤ x.round ∧ x.round ≤ 1
/-- turned: a stack that is turned over, and round. -/
theorem turned_s (b : Bool) (l : List Leaf) (rnd : Bool) (hf : Fine l) (hl : l.length ≤ 1000000) :
  Ctr Tryz.prog 120 [.sl b 4 (l.map eL), (.v (.bool (rnd)))] (fun rr => rr = ⟨.row 0, [.own 116 4 ((l.reverse.map (flip rnd)).map eL)]⟩) := by
 refine Ctr.of (rs := [.tmp 4]) Tok false Tryz.func120 rfl rfl rfl rfl (by simp [ofDL]) (fun w0 kp => ?_)
 simp only [↓sx0, sxE, encs, sevalprocAttr]
 refine CallI.ctr (clone_s b (l.map eL) (by simp [kpLL_map, encs, kpL, kpD]) (by simpa using hl)) (by simp only [sx3, encs, sxR, sevalprocAttr] <;> (try simp) <;> (try rfl)) ?_
 rintro _ rfl
 simp only [↓sx0, sxE, encs, sevalprocAttr]
 refine CallI.inl (rs := []) Tok Tryz.func138 rfl rfl rfl rfl (by simp) (fun ρ σ μ fr lp => ?_)
 simp only [↓sx0, sxE, encs, sevalprocAttr]
 (with_reducible refine Vc.go ?_ fun _ => ?_); focus (first | omega | (simp only [InK]; omega) | (simp [InK]; done) | (simp [InK]; omega))
 simp only [↓sx0, sxE, encs, sevalprocAttr]
 refine LoopW.comp [0, 2, 3] (by simp only [sx2, encs, sxR, sevalprocAttr] <;> (try simp) <;> (try omega)) ?_
 simp only [sx2, sxR, sevalprocAttr]
 refine LoopW.up Tok (fun i : Nat => [(2, (.v (.int .i64 i))), (3, (.v (.int .i64 ((l.length : Int) - 1 - i))))]) (fun i => []) (fun i => [(0, (rv l i).map eL)]) (fun i => []) (fun i => 2 * i ≤ l.length) (fun i => l.length - i) (0) (by simp only [sx2, encs, sxR, sevalprocAttr] <;> (try simp [rv_zero, encs]) <;> (try omega)) ?_ ?_
 ·omega
 ·intro i hi
  simp only [↓sx0, sxE, encs, sevalprocAttr]
  refine BrW.dec (fun hlt => ?_) (fun hlt => ?_)
  ·simp only [↓sx0, sxE, encs, sevalprocAttr]
   have hj : i < l.length := by omega
   have hj2 : l.length - 1 - i < l.length := by omega
   have ej : ((l.length : Int) - 1 - i).toNat = l.length - 1 - i := by omega
   have g1 : (rv l i)[l.length - 1 - i]? = some l[l.length - 1 - i] := by rw [rv_at l i _ hj2 (by omega) (by omega), List.getElem?_eq_getElem hj2]
   have g2 : (rv l i)[i]? = some l[i] := by rw [rv_at l i _ hj (by omega) (by omega), List.getElem?_eq_getElem hj]
   have hst := rv_step l i (by omega)
   have h1 : ((rv l i).map eL).modify ((i : Int)).toNat (modE · 0 (eL l[l.length - 1 - i])) = ((rv l i).set i l[l.length - 1 - i]).map eL := by rw [Int.toNat_natCast]; exact modify_map g2 _ rfl
   have h2 : (((rv l i).set i l[l.length - 1 - i]).map eL).modify ((l.length : Int) - 1 - i).toNat (modE · 0 (eL l[i])) = (rv l (i + 1)).map eL := by
    rw [ej, ← hst]; exact modify_map (x := l[l.length - 1 - i]) (by rw [List.getElem?_set, if_neg (by omega)]; exact g1) _ rfl
   simp only [encs] at h1 h2
   refine DrawW.plan Tok mixed (.q 0 <| .q 1 <| .q 2 <| .q 3 <| .q 4 <| .q 5 <| .q 6 <| .q 7 <| .q 8 <| .q 9 <| .q 10 <| .q 11 <| .q 12 <| .e 13 [] <| .q 14 <| .e 15 [] <| .done) (by kernel_rfl) (by kernel_rfl) ?_
   simp only [↓sx0, sxE, encs, sevalprocAttr]
   (with_reducible refine Vc.go ?_ fun _ => ?_); focus (first | omega | (simp only [InK]; omega) | (simp [rv_length, InK]; done) | (simp [rv_length, InK]; omega))
   simp only [↓sx0, sxE, encs, sevalprocAttr]
   refine IxW.map l[l.length - 1 - i] (by omega) (by rw [ej]; exact g1) ?_
   simp only [↓sx0, sxE, encs, sevalprocAttr]
   (with_reducible refine Vc.go ?_ fun _ => ?_); focus (first | omega | (simp only [InK]; omega) | (simp [rv_length, InK]; done) | (simp [rv_length, InK]; omega))
   simp only [↓sx0, sxE, encs, sevalprocAttr]
   refine IxW.map l[i] (by omega) (by simpa using g2) ?_
   simp only [↓sx0, sxE, encs, sevalprocAttr]
   (with_reducible refine Vc.go ?_ fun _ => ?_); focus (first | omega | (simp only [InK]; omega) | (simp [rv_length, InK]; done) | (simp [rv_length, InK]; omega))
   simp only [↓sx0, sxE, encs, sevalprocAttr]
   (with_reducible refine Vc.go ?_ fun _ => ?_); focus (first | omega | (simp only [InK]; omega) | (simp [rv_length, InK]; done) | (simp [rv_length, InK]; omega))
   simp only [↓sx0, sxE, encs, sevalprocAttr]
   (with_reducible refine Vc.go ?_ fun _ => ?_); focus (first | omega | (simp only [InK]; omega) | (simp [rv_length, InK]; done) | (simp [rv_length, InK]; omega))
   simp only [↓sx0, sxE, encs, sevalprocAttr]
   (with_reducible refine Vc.go ?_ fun _ => ?_); focus (first | omega | (simp only [InK]; omega) | (simp [rv_length, InK]; done) | (simp [rv_length, InK]; omega))
   simp only [↓sx0, sxE, encs, sevalprocAttr]
   (with_reducible refine Vc.go ?_ fun _ => ?_); focus (first | omega | (simp only [InK]; omega) | (simp [InK]; done) | (simp [InK]; omega))
   simp only [↓sx0, sxE, encs, sevalprocAttr]
   (with_reducible refine Vc.go ?_ fun _ => ?_); focus (first | omega | (simp only [InK]; omega) | (simp [InK]; done) | (simp [InK]; omega))
   simp only [↓sx0, sxE, encs, sevalprocAttr]
   rw [h1, h2]
   refine ⟨i + 1, StLe.auto (by simp only [sx2, encs, sxR, sevalprocAttr] <;> (try simp) <;> (try omega)), ?_, ?_⟩
   ·omega
   ·omega
  ·simp only [↓sx0, sxE, encs, sevalprocAttr]
   rw [rv_end l i (by omega) (by omega)]
   generalize hr : l.reverse = r
   have hrl : r.length = l.length := by rw [← hr]; simp
   have hfr : Fine r := fun x hx => hf x (by rw [← hr] at hx; simpa using hx)
   clear hi hlt
   skip
   refine LoopW.comp [1, 5, 12, 13] (by simp only [sx2, encs, sxR, sevalprocAttr] <;> (try simp) <;> (try omega)) ?_
   simp only [sx2, sxR, sevalprocAttr]
   refine LoopW.up Tok (fun k : Nat => [(13, (.v (.int .i64 k)))]) (fun k => []) (fun k => [(0, (chg (flip rnd) r k).map eL)]) (fun k => []) (fun k => k ≤ r.length) (fun k => r.length - k) (0) (by simp only [sx2, encs, sxR, sevalprocAttr] <;> (try simp [chg_zero, encs]) <;> (try omega)) ?_ ?_
   ·omega
   intro k hk
   simp only [↓sx0, sxE, encs, sevalprocAttr]
   refine BrW.dec (fun hlt => ?_) (fun hlt => ?_)
   ·simp only [↓sx0, sxE, encs, sevalprocAttr]
    have hk' : k < r.length := by omega
    have hg := chg_at (flip rnd) r k hk'
    obtain ⟨⟨f1, f2⟩, f3, f4⟩ := hfr r[k] (List.getElem_mem hk')
    have hst := chg_step (flip rnd) r k hk'
    have h1 : ((chg (flip rnd) r k).map eL).modify ((k : Int)).toNat (modE · 2 [.v (.int .i64 (1 - r[k].over))]) = ((chg (flip rnd) r k).set k (ovr1 r[k])).map eL := by rw [Int.toNat_natCast]; exact modify_map hg _ rfl
    have hg2 : ((chg (flip rnd) r k).set k (ovr1 r[k]))[k]? = some (ovr1 r[k]) := List.getElem?_set_self (by simpa using hk')
    have h2 : (((chg (flip rnd) r k).set k (ovr1 r[k])).map eL).modify ((k : Int)).toNat (modE · 3 [.v (.int .i64 (1 - r[k].round))]) = ((chg (flip rnd) r k).set k (rnd1 (ovr1 r[k]))).map eL := by rw [Int.toNat_natCast, modify_map hg2 (rnd1 (ovr1 r[k])) rfl, List.set_set]
    (with_reducible refine Vc.go ?_ fun _ => ?_); focus (first | omega | (simp only [InK]; omega) | (simp [chg_length, InK]; done) | (simp [chg_length, InK]; omega))
    simp only [↓sx0, sxE, encs, sevalprocAttr]
    refine IxW.map r[k] (by omega) (by simpa using hg) ?_
    simp only [↓sx0, sxE, encs, sevalprocAttr]
    (with_reducible refine Vc.go ?_ fun _ => ?_); focus (first | omega | (simp only [InK]; omega) | (simp [InK]; done) | (simp [InK]; omega))
    simp only [↓sx0, sxE, encs, sevalprocAttr]
    (with_reducible refine Vc.go ?_ fun _ => ?_); focus (first | omega | (simp only [InK]; omega) | (simp [chg_length, InK]; done) | (simp [chg_length, InK]; omega))
    simp only [↓sx0, sxE, encs, sevalprocAttr]
    (with_reducible refine Vc.go ?_ fun _ => ?_); focus (first | omega | (simp only [InK]; omega) | (simp [chg_length, InK]; done) | (simp [chg_length, InK]; omega))
    simp only [↓sx0, sxE, encs, sevalprocAttr]
    rw [h1]
    refine BrW.of (fun hb => ?_) (fun hb => ?_)
    ·have e : rnd1 (ovr1 r[k]) = flip rnd r[k] := by simp [flip, rnd1, ovr1, hb]
     simp only [↓sx0, sxE, encs, sevalprocAttr]
     (with_reducible refine Vc.go ?_ fun _ => ?_); focus (first | omega | (simp only [InK]; omega) | (simp [chg_length, InK]; done) | (simp [chg_length, InK]; omega))
     simp only [↓sx0, sxE, encs, sevalprocAttr]
     refine IxW.map (ovr1 r[k]) (by omega) (by simpa using hg2) ?_
     simp only [↓sx0, sxE, encs, sevalprocAttr]
     (with_reducible refine Vc.go ?_ fun _ => ?_); focus (first | omega | (simp only [InK]; omega) | (simp [ovr1, InK]; done) | (simp [ovr1, InK]; omega))
     simp only [↓sx0, sxE, encs, sevalprocAttr]
     (with_reducible refine Vc.go ?_ fun _ => ?_); focus (first | omega | (simp only [InK]; omega) | (simp [chg_length, InK]; done) | (simp [chg_length, InK]; omega))
     simp only [↓sx0, sxE, encs, sevalprocAttr]
     (with_reducible refine Vc.go ?_ fun _ => ?_); focus (first | omega | (simp only [InK]; omega) | (simp [chg_length, InK]; done) | (simp [chg_length, InK]; omega))
     simp only [↓sx0, sxE, encs, sevalprocAttr]
     (with_reducible refine Vc.go ?_ fun _ => ?_); focus (first | omega | (simp only [InK]; omega) | (simp [InK]; done) | (simp [InK]; omega))
     simp only [↓sx0, sxE, encs, sevalprocAttr]
     rw [show (ovr1 r[k]).round = r[k].round from rfl, h2, e, hst]
     refine ⟨k + 1, StLe.auto (by simp only [sx2, encs, sxR, sevalprocAttr] <;> (try simp) <;> (try omega)), ?_, ?_⟩
     ·omega
     ·omega
    ·have e : ovr1 r[k] = flip rnd r[k] := by simp [flip, ovr1, hb]
     rw [e, hst]
     simp only [↓sx0, sxE, encs, sevalprocAttr]
     (with_reducible refine Vc.go ?_ fun _ => ?_); focus (first | omega | (simp only [InK]; omega) | (simp [InK]; done) | (simp [InK]; omega))
     simp only [↓sx0, sxE, encs, sevalprocAttr]
     refine ⟨k + 1, StLe.auto (by simp only [sx2, encs, sxR, sevalprocAttr] <;> (try simp) <;> (try omega)), ?_, ?_⟩
     ·omega
     ·omega
   ·simp only [↓sx0, sxE, encs, sevalprocAttr]
    have hke : k = r.length := by omega
    subst hke
    rw [chg_end]
    exact EndW.r [some 0] (by simp) (by simp only [sx4, sxF, encs, kpLL_map, sxR, sevalprocAttr] <;> simp [kpL, kpD]) (by simp only [sx4, sxF, encs, kpLL_map, sxR, sevalprocAttr] <;> simp [kpL, kpD]) (by simp only [sx4, sxF, encs, kpLL_map, sxR, sevalprocAttr] <;> simp [kpL, kpD]) (by simp only [sx4, sxF, encs, kpLL_map, sxR, sevalprocAttr] <;> simp [kpL, kpD])
end Go.Proofs.YteajjcbinnjgaaaGreatDoor
/-
 Chapter 6, walks: piles turned over and round.
-/
namespace Go.Proofs.YteajjcbinnjgaaaGreatDoor
open Go Go.Vx
set_option linter.unusedSimpArgs false
set_option maxRecDepth 20000
theorem stack_s (b : Bool) (cols rows c r : Int) (ls : List (List Leaf)) (n : Nat) (l : List Leaf) (h : ls[n]? = some l) (hn : r * cols + c = n) (h1 : 0 ≤ r) (h2 : r ≤ 1000) (h3 : 0 ≤ cols) (h4 : cols ≤ 1000) (h5 : 0 ≤ c) (h6 : c ≤ 1000) :
  Ctr Tryz.prog 121 [.agg [(.v (.int .i64 cols)), (.v (.int .i64 rows)), .sl b 1 (ls.map eK)], (.v (.int .i64 c)), (.v (.int .i64 r))] (fun rr => rr = ⟨.sl true 4 (l.map eL), []⟩) := by
 have m1 : r * cols ≤ 1000 * 1000 := Int.mul_le_mul h2 h4 h3 (by omega)
 have m2 : 0 ≤ r * cols := Int.mul_nonneg h1 h3
 refine Ctr.of (rs := [.tmp 6]) Tok true Tryz.func121 rfl rfl rfl rfl (by simp [ofDL]) (fun w0 kp => ?_)
 simp only [↓sx0, sxE, encs, sevalprocAttr]
 (with_reducible refine Vc.go ?_ fun _ => ?_); focus (first | omega | (simp only [InK]; omega) | (simp [InK]; done) | (simp [InK]; omega))
 simp only [↓sx0, sxE, encs, sevalprocAttr]
 (with_reducible refine Vc.go ?_ fun _ => ?_); focus (first | omega | (simp only [InK]; omega) | (simp [InK]; done) | (simp [InK]; omega))
 simp only [↓sx0, sxE, encs, sevalprocAttr]
 refine IxW.map l (by omega) (by rw [hn]; simpa using h) ?_
 simp only [↓sx0, sxE, encs, sevalprocAttr]
 refine EndW.fn ?_ ?_ <;> simp only [sx4, encs, kpLL_map, sxR, sevalprocAttr] <;> (try simp [kpL, kpD]) <;> (try omega)
theorem over1_s (b b2 : Bool) (cols rows c r : Nat) (ls : List (List Leaf)) (l : List Leaf) (h : ls[r * cols + (cols - 1 - c)]? = some l) (h2 : r ≤ 1000) (h4 : cols ≤ 1000) (h5 : c < cols) (hf : Fine l) (hl : l.length ≤ 1000000) :
  Ctr Tryz.prog 119 [(.v (.int .i64 c)), (.v (.int .i64 r)), .pt b2 [.v (.int .i64 cols), .v (.int .i64 rows), .sl b 1 (ls.map eK)]] (fun rr => rr = ⟨.row 0, [.own 116 4 ((l.reverse.map (flip false)).map eL)]⟩) := by
 refine Ctr.of (rs := [.tmp 5]) Tok false Tryz.func119 rfl rfl rfl rfl (by simp [ofDL]) (fun w0 kp => ?_)
 simp only [↓sx0, sxE, encs, sevalprocAttr]
 (with_reducible refine Vc.go ?_ fun _ => ?_); focus (first | omega | (simp only [InK]; omega) | (simp [InK]; done) | (simp [InK]; omega))
 simp only [↓sx0, sxE, encs, sevalprocAttr]
 (with_reducible refine Vc.go ?_ fun _ => ?_); focus (first | omega | (simp only [InK]; omega) | (simp [InK]; done) | (simp [InK]; omega))
 simp only [↓sx0, sxE, encs, sevalprocAttr]
 refine CallI.fn (stack_s b cols rows ((cols : Int) - 1 - c) r ls _ l h (by push_cast; omega) (by omega) (by omega) (by omega) (by omega) (by omega) (by omega)) (by simp only [sx3, encs, sxR, sevalprocAttr] <;> (try simp) <;> (try rfl)) ?_
 simp only [↓sx0, sxE, encs, sevalprocAttr]
 refine CallI.ctr (turned_s true l false hf hl) (by simp only [sx3, encs, sxR, sevalprocAttr] <;> (try simp) <;> (try rfl)) ?_
 rintro _ rfl
 simp only [↓sx0, sxE, encs, sevalprocAttr]
 exact EndW.r [some 0] (by simp) (by simp only [sx4, sxF, encs, kpLL_map, sxR, sevalprocAttr] <;> simp [kpL, kpD]) (by simp only [sx4, sxF, encs, kpLL_map, sxR, sevalprocAttr] <;> simp [kpL, kpD]) (by simp only [sx4, sxF, encs, kpLL_map, sxR, sevalprocAttr] <;> simp [kpL, kpD]) (by simp only [sx4, sxF, encs, kpLL_map, sxR, sevalprocAttr] <;> simp [kpL, kpD])
theorem round1_s (b b2 : Bool) (cols rows c r : Nat) (ls : List (List Leaf)) (l : List Leaf) (h : ls[(rows - 1 - r) * cols + (cols - 1 - c)]? = some l) (h2 : rows ≤ 1000) (h4 : cols ≤ 1000) (h5 : c < cols) (h6 : r < rows) (hf : Fine l) (hl : l.length ≤ 1000000) :
  Ctr Tryz.prog 122 [(.v (.int .i64 c)), (.v (.int .i64 r)), .pt b2 [.v (.int .i64 cols), .v (.int .i64 rows), .sl b 1 (ls.map eK)]] (fun rr => rr = ⟨.row 0, [.own 116 4 ((l.map rnd1).map eL)]⟩) := by
 refine Ctr.of (rs := [.tmp 5]) Tok false Tryz.func122 rfl rfl rfl rfl (by simp [ofDL]) (fun w0 kp => ?_)
 simp only [↓sx0, sxE, encs, sevalprocAttr]
 (with_reducible refine Vc.go ?_ fun _ => ?_); focus (first | omega | (simp only [InK]; omega) | (simp [InK]; done) | (simp [InK]; omega))
 simp only [↓sx0, sxE, encs, sevalprocAttr]
 (with_reducible refine Vc.go ?_ fun _ => ?_); focus (first | omega | (simp only [InK]; omega) | (simp [InK]; done) | (simp [InK]; omega))
 simp only [↓sx0, sxE, encs, sevalprocAttr]
 (with_reducible refine Vc.go ?_ fun _ => ?_); focus (first | omega | (simp only [InK]; omega) | (simp [InK]; done) | (simp [InK]; omega))
 simp only [↓sx0, sxE, encs, sevalprocAttr]
 (with_reducible refine Vc.go ?_ fun _ => ?_); focus (first | omega | (simp only [InK]; omega) | (simp [InK]; done) | (simp [InK]; omega))
 simp only [↓sx0, sxE, encs, sevalprocAttr]
 refine CallI.fn (stack_s b cols rows ((cols : Int) - 1 - c) ((rows : Int) - 1 - r) ls _ l h (by rw [Int.natCast_add, Int.natCast_mul, show ((rows - 1 - r : Nat) : Int) = (rows : Int) - 1 - r by omega, show ((cols - 1 - c : Nat) : Int) = (cols : Int) - 1 - c by omega]) (by omega) (by omega) (by omega) (by omega) (by omega) (by omega)) (by simp only [sx3, encs, sxR, sevalprocAttr] <;> (try simp) <;> (try rfl)) ?_
 simp only [↓sx0, sxE, encs, sevalprocAttr]
 refine CallI.ctr (clone_s true (l.map eL) (by simp [kpLL_map, encs, kpL, kpD]) (by simpa using hl)) (by simp only [sx3, encs, sxR, sevalprocAttr] <;> (try simp) <;> (try rfl)) ?_
 rintro _ rfl
 simp only [↓sx0, sxE, encs, sevalprocAttr]
 refine LoopW.comp [6, 22, 23] (by simp only [sx2, encs, sxR, sevalprocAttr] <;> (try simp) <;> (try omega)) ?_
 simp only [sx2, sxR, sevalprocAttr]
 refine LoopW.up Tok (fun k : Nat => [(23, (.v (.int .i64 k)))]) (fun k => []) (fun k => [(0, (chg rnd1 l k).map eL)]) (fun k => []) (fun k => k ≤ l.length) (fun k => l.length - k) (0) (by simp only [sx2, encs, sxR, sevalprocAttr] <;> (try simp [chg_zero, encs]) <;> (try omega)) ?_ ?_
 ·omega
 intro k hk
 simp only [↓sx0, sxE, encs, sevalprocAttr]
 refine BrW.dec (fun hlt => ?_) (fun hlt => ?_)
 ·simp only [↓sx0, sxE, encs, sevalprocAttr]
  have hk' : k < l.length := by omega
  have hg := chg_at rnd1 l k hk'
  obtain ⟨⟨f1, f2⟩, f3, f4⟩ := hf l[k] (List.getElem_mem hk')
  have h1 : ((chg rnd1 l k).map eL).modify ((k : Int)).toNat (modE · 3 [.v (.int .i64 (1 - l[k].round))]) = (chg rnd1 l (k + 1)).map eL := by rw [Int.toNat_natCast, ← chg_step rnd1 l k hk']; exact modify_map hg _ rfl
  (with_reducible refine Vc.go ?_ fun _ => ?_); focus (first | omega | (simp only [InK]; omega) | (simp [chg_length, InK]; done) | (simp [chg_length, InK]; omega))
  simp only [↓sx0, sxE, encs, sevalprocAttr]
  refine IxW.map l[k] (by omega) (by simpa using hg) ?_
  simp only [↓sx0, sxE, encs, sevalprocAttr]
  (with_reducible refine Vc.go ?_ fun _ => ?_); focus (first | omega | (simp only [InK]; omega) | (simp [InK]; done) | (simp [InK]; omega))
  simp only [↓sx0, sxE, encs, sevalprocAttr]
  (with_reducible refine Vc.go ?_ fun _ => ?_); focus (first | omega | (simp only [InK]; omega) | (simp [chg_length, InK]; done) | (simp [chg_length, InK]; omega))
  simp only [↓sx0, sxE, encs, sevalprocAttr]
  (with_reducible refine Vc.go ?_ fun _ => ?_); focus (first | omega | (simp only [InK]; omega) | (simp [chg_length, InK]; done) | (simp [chg_length, InK]; omega))
  simp only [↓sx0, sxE, encs, sevalprocAttr]
  (with_reducible refine Vc.go ?_ fun _ => ?_); focus (first | omega | (simp only [InK]; omega) | (simp [InK]; done) | (simp [InK]; omega))
  simp only [↓sx0, sxE, encs, sevalprocAttr]
  rw [h1]
  refine ⟨k + 1, StLe.auto (by simp only [sx2, encs, sxR, sevalprocAttr] <;> (try simp) <;> (try omega)), ?_, ?_⟩
  ·omega
  ·omega
 ·simp only [↓sx0, sxE, encs, sevalprocAttr]
  have hke : k = l.length := by omega
  subst hke
  rw [chg_end]
  exact EndW.r [some 0] (by simp) (by simp only [sx4, sxF, encs, kpLL_map, sxR, sevalprocAttr] <;> simp [kpL, kpD]) (by simp only [sx4, sxF, encs, kpLL_map, sxR, sevalprocAttr] <;> simp [kpL, kpD]) (by simp only [sx4, sxF, encs, kpLL_map, sxR, sevalprocAttr] <;> simp [kpL, kpD]) (by simp only [sx4, sxF, encs, kpLL_map, sxR, sevalprocAttr] <;> simp [kpL, kpD])
/-- moved: a pile made place by place. -/
theorem moved_s (f : Nat) (caps : List SV) (hren : ∀ γ, renL γ caps = caps) (hle : ∀ β γ, leL β γ caps caps = True) (hlend : ∀ rw bx, argOk rw bx caps caps = True) (cols rows : Nat) (g : Nat → Nat → List Leaf) (hof : ∀ c r, c < cols → r < rows → Ctr Tryz.prog f ([(.v (.int .i64 c)), (.v (.int .i64 r))] ++ caps) (fun rr => rr = ⟨.row 0, [.own 116 4 ((g c r).map eL)]⟩)) (hc : cols ≤ 1000) (hr : rows ≤ 1000) :
  Ctr Tryz.prog 118 [(.v (.int .i64 cols)), (.v (.int .i64 rows)), .clo f caps] (fun rr => rr = ⟨.agg [(.v (.int .i64 cols)), (.v (.int .i64 rows)), .sl true 1 ((grid cols rows g).map eK)], []⟩) := by
 have hsz : rows * cols ≤ 1000 * 1000 := Nat.mul_le_mul hr hc
 have encs := And.intro encs (And.intro hren (And.intro hle hlend))
 refine Ctr.of (rs := [.cell 6 137]) Tok true Tryz.func118 rfl rfl rfl rfl (by simp [ofDL]) (fun w0 kp => ?_)
 simp only [↓sx0, sxE, encs, sevalprocAttr]
 refine LoopW.comp [0, 2, 6, 7, 13, 14] (by simp only [sx2, encs, sxR, sevalprocAttr] <;> (try simp) <;> (try omega)) ?_
 simp only [sx2, sxR, sevalprocAttr]
 refine LoopW.up Tok (fun r : Nat => [(14, (.v (.int .i64 r)))]) (fun r => [(1, [(.v (.int .i64 cols)), (.v (.int .i64 rows)), .row 0])]) (fun r => []) (fun r => [.own 112 1 ((grid cols r g).map eK)]) (fun r => r ≤ rows) (fun r => rows - r) (0) (by simp only [sx2, encs, sxR, sevalprocAttr] <;> (try simp) <;> (try omega)) ?_ ?_
 ·omega
 rintro r hr1
 simp only [↓sx0, sxE, encs, sevalprocAttr]
 refine BrW.dec (fun hlt => ?_) (fun hlt => ?_)
 ·simp only [↓sx0, sxE, encs, sevalprocAttr]
  have hr2 : r < rows := by omega
  refine LoopW.comp [0, 2, 6, 7, 8, 13, 14, 17, 18] (by simp only [sx2, encs, sxR, sevalprocAttr] <;> (try simp) <;> (try omega)) ?_
  simp only [sx2, sxR, sevalprocAttr]
  refine LoopW.up Tok (fun k : Nat => [(18, (.v (.int .i64 k)))]) (fun k => []) (fun k => [(0, ((grid cols r g) ++ gridRow k g r).map eK)]) (fun k => []) (fun k => k ≤ cols) (fun k => cols - k) (0) (by simp only [sx2, encs, sxR, sevalprocAttr] <;> (try simp) <;> (try omega)) ?_ ?_
  ·omega
  rintro k hk1
  have hlen : r * cols + k ≤ 1000000 := by
   have h1 : (r + 1) * cols ≤ rows * cols := Nat.mul_le_mul_right _ hr2
   rw [Nat.succ_mul] at h1
   omega
  simp only [↓sx0, sxE, encs, sevalprocAttr]
  refine BrW.dec (fun hlt2 => ?_) (fun hlt2 => ?_)
  ·simp only [↓sx0, sxE, encs, sevalprocAttr]
   refine DrawW.plan Tok mixed (.q 0 <| .q 1 <| .q 2 <| .q 3 <| .q 4 <| .e 5 [1] <| .e 6 [1] <| .e 7 [] <| .q 8 <| .e 9 [] <| .done) (by kernel_rfl) (by kernel_rfl) ?_
   simp only [↓sx0, sxE, encs, sevalprocAttr]
   refine CallI.ctr (hof k r (by omega) hr2) (by simp only [sx3, encs, sxR, sevalprocAttr] <;> (try simp) <;> (try rfl)) ?_
   rintro _ rfl
   simp only [↓sx0, sxE, encs, sevalprocAttr]
   (with_reducible refine Vc.go ?_ fun _ => ?_); focus (first | omega | (simp only [InK]; omega) | (simp [grid_length, gridRow_length, InK]; done) | (simp [grid_length, gridRow_length, InK]; omega))
   simp only [↓sx0, sxE, encs, sevalprocAttr]
   (with_reducible refine Vc.go ?_ fun _ => ?_); focus (first | omega | (simp only [InK]; omega) | (simp [InK]; done) | (simp [InK]; omega))
   simp only [↓sx0, sxE, encs, sevalprocAttr]
   refine ⟨k + 1, StLe.auto (by simp only [sx2, encs, sxR, sevalprocAttr] <;> (try simp [gridRow_succ, encs]) <;> (try omega)), ?_, ?_⟩
   ·omega
   ·omega
  ·simp only [↓sx0, sxE, encs, sevalprocAttr]
   have : k = cols := by omega
   subst this
   (with_reducible refine Vc.go ?_ fun _ => ?_); focus (first | omega | (simp only [InK]; omega) | (simp [InK]; done) | (simp [InK]; omega))
   simp only [↓sx0, sxE, encs, sevalprocAttr]
   refine ⟨r + 1, StLe.auto (by simp only [sx2, encs, sxR, sevalprocAttr] <;> (try simp [grid_succ, encs]) <;> (try omega)), ?_, ?_⟩
   ·omega
   ·omega
 ·simp only [↓sx0, sxE, encs, sevalprocAttr]
  have : r = rows := by omega
  subst this
  refine EndW.fn ?_ ?_ <;> simp only [sx4, encs, kpLL_map, sxR, sevalprocAttr] <;> (try simp) <;> (try omega)
end Go.Proofs.YteajjcbinnjgaaaGreatDoor
/-
 Chapter 6, walks: piles laid over.
-/
namespace Go.Proofs.YteajjcbinnjgaaaGreatDoor
open Go Go.Vx
set_option linter.unusedSimpArgs false
set_option maxRecDepth 20000
/-- all stacks are fine, and not too high. -/
def FineP (ls : List (List Leaf)) : Prop := ∀ l ∈ ls, Fine l ∧ l.length ≤ 400000
def stkAt (ls : List (List Leaf)) (i : Nat) : List Leaf := ls.getD i []
theorem stkAt_get {ls : List (List Leaf)} {i : Nat} (h : i < ls.length) : ls[i]? = some (stkAt ls i) := by simp [stkAt, List.getD_eq_getElem?_getD, h]
theorem stkAt_fine {ls : List (List Leaf)} (hf : FineP ls) (i : Nat) : Fine (stkAt ls i) ∧ (stkAt ls i).length ≤ 400000 := by
 by_cases h : i < ls.length
 ·exact hf _ (List.mem_of_getElem? (stkAt_get h))
 ·have : stkAt ls i = [] := by simp [stkAt, List.getD_eq_getElem?_getD, List.getElem?_eq_none (Nat.le_of_not_lt h)]
  rw [this]; exact ⟨fun x hx => by simp at hx, by simp⟩
theorem cell_lt {rows cols r c : Nat} (hr : r < rows) (hc : c < cols) : r * cols + c < rows * cols := by
 have : (r + 1) * cols ≤ rows * cols := Nat.mul_le_mul_right _ hr
 rw [Nat.succ_mul] at this; omega
def overG (cols rows : Nat) (ls : List (List Leaf)) : List (List Leaf) := grid cols rows fun c r => (stkAt ls (r * cols + (cols - 1 - c))).reverse.map (flip false)
def roundG (cols rows : Nat) (ls : List (List Leaf)) : List (List Leaf) := grid cols rows fun c r => (stkAt ls ((rows - 1 - r) * cols + (cols - 1 - c))).map rnd1
theorem over_s (b : Bool) (ls : List (List Leaf)) (hf : FineP ls) (cols rows : Nat) (hc : cols ≤ 1000) (hr : rows ≤ 1000) (hn : ls.length = rows * cols) :
  Ctr Tryz.prog 95 [.agg [(.v (.int .i64 cols)), (.v (.int .i64 rows)), .sl b 1 (ls.map eK)]] (fun rr => rr = ⟨.agg [(.v (.int .i64 cols)), (.v (.int .i64 rows)), .sl true 1 ((overG cols rows ls).map eK)], []⟩) := by
 refine Ctr.of (rs := [.cell 2 137]) Tok true Tryz.func95 rfl rfl rfl rfl (by simp [ofDL]) (fun w0 kp => ?_)
 simp only [↓sx0, sxE, encs, sevalprocAttr]
 refine CallI.fn (moved_s 119 [.pt false [.v (.int .i64 cols), .v (.int .i64 rows), .sl b 1 (ls.map eK)]] (by intro; rfl) (by intro β γ; simp [leL, leV]) (by intro rw bx; simp [argOk, lendA, lendO, argO, ofD, leV]) cols rows (fun c r => (stkAt ls (r * cols + (cols - 1 - c))).reverse.map (flip false)) (fun c r h1 h2 => over1_s b false cols rows c r ls _ (stkAt_get (by rw [hn]; exact cell_lt h2 (by omega))) (by omega) hc h1 (stkAt_fine hf _).1 (by have := (stkAt_fine hf (r * cols + (cols - 1 - c))).2; omega)) hc hr) (by simp only [sx3, encs, sxR, sevalprocAttr] <;> (try simp) <;> (try rfl)) ?_
 simp only [↓sx0, sxE, encs, sevalprocAttr]
 refine EndW.fn ?_ ?_ <;> simp only [sx4, encs, kpLL_map, sxR, sevalprocAttr] <;> (try simp [overG]) <;> (try omega)
theorem round_s (b : Bool) (ls : List (List Leaf)) (hf : FineP ls) (cols rows : Nat) (hc : cols ≤ 1000) (hr : rows ≤ 1000) (hn : ls.length = rows * cols) :
  Ctr Tryz.prog 96 [.agg [(.v (.int .i64 cols)), (.v (.int .i64 rows)), .sl b 1 (ls.map eK)]] (fun rr => rr = ⟨.agg [(.v (.int .i64 cols)), (.v (.int .i64 rows)), .sl true 1 ((roundG cols rows ls).map eK)], []⟩) := by
 refine Ctr.of (rs := [.cell 2 137]) Tok true Tryz.func96 rfl rfl rfl rfl (by simp [ofDL]) (fun w0 kp => ?_)
 simp only [↓sx0, sxE, encs, sevalprocAttr]
 refine CallI.fn (moved_s 122 [.pt false [.v (.int .i64 cols), .v (.int .i64 rows), .sl b 1 (ls.map eK)]] (by intro; rfl) (by intro β γ; simp [leL, leV]) (by intro rw bx; simp [argOk, lendA, lendO, argO, ofD, leV]) cols rows (fun c r => (stkAt ls ((rows - 1 - r) * cols + (cols - 1 - c))).map rnd1) (fun c r h1 h2 => round1_s b false cols rows c r ls _ (stkAt_get (by rw [hn]; exact cell_lt (by omega) (by omega))) (by omega) hc h1 h2 (stkAt_fine hf _).1 (by have := (stkAt_fine hf ((rows - 1 - r) * cols + (cols - 1 - c))).2; omega)) hc hr) (by simp only [sx3, encs, sxR, sevalprocAttr] <;> (try simp) <;> (try rfl)) ?_
 simp only [↓sx0, sxE, encs, sevalprocAttr]
 refine EndW.fn ?_ ?_ <;> simp only [sx4, encs, kpLL_map, sxR, sevalprocAttr] <;> (try simp [roundG]) <;> (try omega)
def getI (back rows : Bool) (side cols along across : Int) : Int :=
 if rows then (if back then side - 1 - along else along) * cols + across else across * cols + (if back then side - 1 - along else along)
/-- what the closures of laid know. -/
def capG (b back rows : Bool) (side cols rws : Int) (ls : List (List Leaf)) : List D :=
 [.pt false [.v (.bool back)], .pt false [.v (.int .i64 side)], .pt false [.v (.bool rows)], .pt false [.v (.int .i64 cols), .v (.int .i64 rws), .sl b 1 (ls.map eK)]]
theorem get_s (b back rows : Bool) (side cols rws along across : Int) (ls : List (List Leaf)) (n : Nat) (l : List Leaf) (h : ls[n]? = some l) (hn : getI back rows side cols along across = n) (h1 : 0 ≤ cols) (hc : cols ≤ 1000) (hsd : side ≤ 1000) (h2 : 0 ≤ along) (hal : along < side) (h3 : 0 ≤ across) (hac : across ≤ 1000) :
  Ctr Tryz.prog 124 ([(.v (.int .i64 along)), (.v (.int .i64 across))] ++ ofDL (capG b back rows side cols rws ls)) (fun rr => rr = ⟨.sl true 4 (l.map eL), []⟩) := by
 unfold capG
 unfold getI at hn
 cases back <;> cases rows <;> simp only [Bool.false_eq_true, if_false, if_true] at hn
 ·refine Ctr.of (rs := [.tmp 8]) Tok true Tryz.func124 rfl rfl rfl rfl (by simp [ofDL]) (fun w0 kp => ?_)
  simp only [↓sx0, sxE, encs, sevalprocAttr]
  refine CallI.fn (stack_s b cols rws along across ls n l h (by omega) (by omega) (by omega) (by omega) (by omega) (by omega) (by omega)) (by simp only [sx3, encs, sxR, sevalprocAttr] <;> (try simp) <;> (try rfl)) ?_
  simp only [↓sx0, sxE, encs, sevalprocAttr]
  refine EndW.fn ?_ ?_ <;> simp only [sx4, encs, kpLL_map, sxR, sevalprocAttr] <;> (try simp [kpL, kpD]) <;> (try omega)
 ·refine Ctr.of (rs := [.tmp 8]) Tok true Tryz.func124 rfl rfl rfl rfl (by simp [ofDL]) (fun w0 kp => ?_)
  simp only [↓sx0, sxE, encs, sevalprocAttr]
  refine CallI.fn (stack_s b cols rws across along ls n l h (by omega) (by omega) (by omega) (by omega) (by omega) (by omega) (by omega)) (by simp only [sx3, encs, sxR, sevalprocAttr] <;> (try simp) <;> (try rfl)) ?_
  simp only [↓sx0, sxE, encs, sevalprocAttr]
  refine EndW.fn ?_ ?_ <;> simp only [sx4, encs, kpLL_map, sxR, sevalprocAttr] <;> (try simp [kpL, kpD]) <;> (try omega)
 ·refine Ctr.of (rs := [.tmp 8]) Tok true Tryz.func124 rfl rfl rfl rfl (by simp [ofDL]) (fun w0 kp => ?_)
  simp only [↓sx0, sxE, encs, sevalprocAttr]
  repeat ((with_reducible refine Vc.go ?_ fun _ => ?_); (focus (first | omega | (simp only [InK]; omega) | (simp [InK]; done) | (simp [InK]; omega))); simp only [↓sx0, sxE, encs, sevalprocAttr])
  refine CallI.fn (stack_s b cols rws (side - 1 - along) across ls n l h (by omega) (by omega) (by omega) (by omega) (by omega) (by omega) (by omega)) (by simp only [sx3, encs, sxR, sevalprocAttr] <;> (try simp) <;> (try rfl)) ?_
  simp only [↓sx0, sxE, encs, sevalprocAttr]
  refine EndW.fn ?_ ?_ <;> simp only [sx4, encs, kpLL_map, sxR, sevalprocAttr] <;> (try simp [kpL, kpD]) <;> (try omega)
 ·refine Ctr.of (rs := [.tmp 8]) Tok true Tryz.func124 rfl rfl rfl rfl (by simp [ofDL]) (fun w0 kp => ?_)
  simp only [↓sx0, sxE, encs, sevalprocAttr]
  repeat ((with_reducible refine Vc.go ?_ fun _ => ?_); (focus (first | omega | (simp only [InK]; omega) | (simp [InK]; done) | (simp [InK]; omega))); simp only [↓sx0, sxE, encs, sevalprocAttr])
  refine CallI.fn (stack_s b cols rws across (side - 1 - along) ls n l h (by omega) (by omega) (by omega) (by omega) (by omega) (by omega) (by omega)) (by simp only [sx3, encs, sxR, sevalprocAttr] <;> (try simp) <;> (try rfl)) ?_
  simp only [↓sx0, sxE, encs, sevalprocAttr]
  refine EndW.fn ?_ ?_ <;> simp only [sx4, encs, kpLL_map, sxR, sevalprocAttr] <;> (try simp [kpL, kpD]) <;> (try omega)
end Go.Proofs.YteajjcbinnjgaaaGreatDoor
/-
 Chapter 6, walks: piles laid over, and folds.
-/
namespace Go.Proofs.YteajjcbinnjgaaaGreatDoor
open Go Go.Vx
set_option linter.unusedSimpArgs false
set_option maxRecDepth 20000
def capP (b back rows : Bool) (first side cols rws : Int) (ls : List (List Leaf)) : List D :=
 [.pt false [.v (.bool back)], .pt false [.v (.int .i64 first)], .pt false [.clo 124 (capG b back rows side cols rws ls)], .pt false [.v (.int .i64 side)], .pt false [.v (.bool rows)]]
theorem put_s (b back rows : Bool) (first side cols rws along across a : Int) (ls : List (List Leaf)) (hf : FineP ls) (n : Nat) (lb res : List Leaf) (ha : a = if back then first - 1 - along else along) (hlb : ls[n]? = some lb) (hn : getI back rows side cols a across = n)
  (h1 : 0 ≤ cols) (hc : cols ≤ 1000) (hsd : side ≤ 1000) (h2 : 0 ≤ along) (hal : along < first) (hfs : first ≤ side) (h3 : 0 ≤ across) (hac : across ≤ 1000)
  (hres : if 2 * first - 1 - a < side then ∃ (m : Nat) (lf : List Leaf), ls[m]? = some lf ∧ getI back rows side cols (2 * first - 1 - a) across = m ∧ res = lf.reverse.map (flip rows) ++ lb else res = lb) :
  Ctr Tryz.prog 125 ([(.v (.int .i64 along)), (.v (.int .i64 across))] ++ ofDL (capP b back rows first side cols rws ls)) (fun rr => rr = ⟨.row 0, [.own 116 4 (res.map eL)]⟩) := by
 obtain ⟨hflb, hllb⟩ := hf lb (List.mem_of_getElem? hlb)
 have get1 := get_s b back rows side cols rws a across ls n lb hlb hn h1 hc hsd (by rw [ha]; split <;> omega) (by rw [ha]; split <;> omega) h3 hac
 have hcl : ∀ l : List Leaf, kpLL (l.map eL) := fun l => by simp [kpLL_map, encs, kpL, kpD]
 have main : ∀ lf : List Leaf, (2 * first - 1 - a < side) → (∃ m : Nat, ls[m]? = some lf ∧ getI back rows side cols (2 * first - 1 - a) across = m) → res = lf.reverse.map (flip rows) ++ lb →
   Ctr Tryz.prog 125 ([(.v (.int .i64 along)), (.v (.int .i64 across))] ++ ofDL (capP b back rows first side cols rws ls)) (fun rr => rr = ⟨.row 0, [.own 116 4 (res.map eL)]⟩) := by
  rintro lf hlt ⟨m, hm, hmn⟩ rfl
  obtain ⟨hflf, hllf⟩ := hf lf (List.mem_of_getElem? hm)
  have get2 := get_s b back rows side cols rws (2 * first - 1 - a) across ls m lf hm hmn h1 hc hsd (by rw [ha]; split <;> omega) hlt h3 hac
  unfold capP capG at *
  cases back <;> simp only [Bool.false_eq_true, if_false, if_true] at ha <;> subst ha
  ·refine Ctr.of (rs := [.tmp 9]) Tok false Tryz.func125 rfl rfl rfl rfl (by simp [ofDL]) (fun w0 kp => ?_)
   simp only [↓sx0, sxE, encs, sevalprocAttr]
   refine CallI.fn (get1) (by simp only [sx3, encs, sxR, sevalprocAttr] <;> (try simp) <;> (try rfl)) ?_
   simp only [↓sx0, sxE, encs, sevalprocAttr]
   repeat ((with_reducible refine Vc.go ?_ fun _ => ?_); (focus (first | omega | (simp only [InK]; omega) | (simp [InK]; done) | (simp [InK]; omega))); simp only [↓sx0, sxE, encs, sevalprocAttr])
   refine BrW.yes (by omega) ?_
   simp only [↓sx0, sxE, encs, sevalprocAttr]
   refine DrawW.plan Tok mixed (.q 0 <| .q 1 <| .q 2 <| .q 4 <| .q 6 <| .e 3 [4] <| .e 5 [] <| .e 7 [] <| .e 8 [] <| .q 9 <| .done) (by kernel_rfl) (by kernel_rfl) ?_
   simp only [↓sx0, sxE, encs, sevalprocAttr]
   refine CallI.fn (get2) (by simp only [sx3, encs, sxR, sevalprocAttr] <;> (try simp) <;> (try rfl)) ?_
   simp only [↓sx0, sxE, encs, sevalprocAttr]
   refine CallI.ctr (turned_s true lf rows hflf (by omega)) (by simp only [sx3, encs, sxR, sevalprocAttr] <;> (try simp) <;> (try rfl)) ?_
   rintro _ rfl
   simp only [↓sx0, sxE, encs, sevalprocAttr]
   refine CallI.ctr (concat_s false [lf.reverse.map (flip rows), lb] (by simp) (by simp; omega)) (by simp only [sx3, encs, sxR, sevalprocAttr] <;> (try simp) <;> (try rfl)) ?_
   rintro _ rfl
   simp only [↓sx0, sxE, encs, sevalprocAttr]
   exact EndW.r [some 2] (by simp) (by simp only [sx4, sxF, encs, kpLL_map, sxR, sevalprocAttr] <;> simp [kpL, kpD]) (by simp only [sx4, sxF, encs, kpLL_map, sxR, sevalprocAttr] <;> simp [kpL, kpD]) (by simp only [sx4, sxF, encs, kpLL_map, sxR, sevalprocAttr] <;> simp [kpL, kpD]) (by simp only [sx4, sxF, encs, kpLL_map, sxR, sevalprocAttr] <;> simp [kpL, kpD])
  ·refine Ctr.of (rs := [.tmp 9]) Tok false Tryz.func125 rfl rfl rfl rfl (by simp [ofDL]) (fun w0 kp => ?_)
   simp only [↓sx0, sxE, encs, sevalprocAttr]
   repeat ((with_reducible refine Vc.go ?_ fun _ => ?_); (focus (first | omega | (simp only [InK]; omega) | (simp [InK]; done) | (simp [InK]; omega))); simp only [↓sx0, sxE, encs, sevalprocAttr])
   refine CallI.fn (get1) (by simp only [sx3, encs, sxR, sevalprocAttr] <;> (try simp) <;> (try rfl)) ?_
   simp only [↓sx0, sxE, encs, sevalprocAttr]
   repeat ((with_reducible refine Vc.go ?_ fun _ => ?_); (focus (first | omega | (simp only [InK]; omega) | (simp [InK]; done) | (simp [InK]; omega))); simp only [↓sx0, sxE, encs, sevalprocAttr])
   refine BrW.yes (by omega) ?_
   simp only [↓sx0, sxE, encs, sevalprocAttr]
   refine DrawW.plan Tok mixed (.q 0 <| .q 1 <| .q 2 <| .q 4 <| .q 6 <| .e 3 [4] <| .e 5 [] <| .e 7 [] <| .e 8 [] <| .q 9 <| .done) (by kernel_rfl) (by kernel_rfl) ?_
   simp only [↓sx0, sxE, encs, sevalprocAttr]
   refine CallI.fn (get2) (by simp only [sx3, encs, sxR, sevalprocAttr] <;> (try simp) <;> (try rfl)) ?_
   simp only [↓sx0, sxE, encs, sevalprocAttr]
   refine CallI.ctr (turned_s true lf rows hflf (by omega)) (by simp only [sx3, encs, sxR, sevalprocAttr] <;> (try simp) <;> (try rfl)) ?_
   rintro _ rfl
   simp only [↓sx0, sxE, encs, sevalprocAttr]
   refine CallI.ctr (concat_s false [lf.reverse.map (flip rows), lb] (by simp) (by simp; omega)) (by simp only [sx3, encs, sxR, sevalprocAttr] <;> (try simp) <;> (try rfl)) ?_
   rintro _ rfl
   simp only [↓sx0, sxE, encs, sevalprocAttr]
   exact EndW.r [some 2] (by simp) (by simp only [sx4, sxF, encs, kpLL_map, sxR, sevalprocAttr] <;> simp [kpL, kpD]) (by simp only [sx4, sxF, encs, kpLL_map, sxR, sevalprocAttr] <;> simp [kpL, kpD]) (by simp only [sx4, sxF, encs, kpLL_map, sxR, sevalprocAttr] <;> simp [kpL, kpD]) (by simp only [sx4, sxF, encs, kpLL_map, sxR, sevalprocAttr] <;> simp [kpL, kpD])
 by_cases hlt : 2 * first - 1 - a < side
 ·rw [if_pos hlt] at hres
  obtain ⟨m, lf, hm, hmn, hr⟩ := hres
  exact main lf hlt ⟨m, hm, hmn⟩ hr
 ·rw [if_neg hlt] at hres
  subst hres
  clear main
  unfold capP capG at *
  cases back <;> simp only [Bool.false_eq_true, if_false, if_true] at ha <;> subst ha
  ·refine Ctr.of (rs := [.tmp 9]) Tok false Tryz.func125 rfl rfl rfl rfl (by simp [ofDL]) (fun w0 kp => ?_)
   simp only [↓sx0, sxE, encs, sevalprocAttr]
   refine CallI.fn (get1) (by simp only [sx3, encs, sxR, sevalprocAttr] <;> (try simp) <;> (try rfl)) ?_
   simp only [↓sx0, sxE, encs, sevalprocAttr]
   repeat ((with_reducible refine Vc.go ?_ fun _ => ?_); (focus (first | omega | (simp only [InK]; omega) | (simp [InK]; done) | (simp [InK]; omega))); simp only [↓sx0, sxE, encs, sevalprocAttr])
   refine BrW.no (by omega) ?_
   simp only [↓sx0, sxE, encs, sevalprocAttr]
   refine CallI.ctr (clone_s true (res.map eL) (hcl _) (by simp; omega)) (by simp only [sx3, encs, sxR, sevalprocAttr] <;> (try simp) <;> (try rfl)) ?_
   rintro _ rfl
   simp only [↓sx0, sxE, encs, sevalprocAttr]
   exact EndW.r [some 0] (by simp) (by simp only [sx4, sxF, encs, kpLL_map, sxR, sevalprocAttr] <;> simp [kpL, kpD]) (by simp only [sx4, sxF, encs, kpLL_map, sxR, sevalprocAttr] <;> simp [kpL, kpD]) (by simp only [sx4, sxF, encs, kpLL_map, sxR, sevalprocAttr] <;> simp [kpL, kpD]) (by simp only [sx4, sxF, encs, kpLL_map, sxR, sevalprocAttr] <;> simp [kpL, kpD])
  ·refine Ctr.of (rs := [.tmp 9]) Tok false Tryz.func125 rfl rfl rfl rfl (by simp [ofDL]) (fun w0 kp => ?_)
   simp only [↓sx0, sxE, encs, sevalprocAttr]
   repeat ((with_reducible refine Vc.go ?_ fun _ => ?_); (focus (first | omega | (simp only [InK]; omega) | (simp [InK]; done) | (simp [InK]; omega))); simp only [↓sx0, sxE, encs, sevalprocAttr])
   refine CallI.fn (get1) (by simp only [sx3, encs, sxR, sevalprocAttr] <;> (try simp) <;> (try rfl)) ?_
   simp only [↓sx0, sxE, encs, sevalprocAttr]
   repeat ((with_reducible refine Vc.go ?_ fun _ => ?_); (focus (first | omega | (simp only [InK]; omega) | (simp [InK]; done) | (simp [InK]; omega))); simp only [↓sx0, sxE, encs, sevalprocAttr])
   refine BrW.no (by omega) ?_
   simp only [↓sx0, sxE, encs, sevalprocAttr]
   refine CallI.ctr (clone_s true (res.map eL) (hcl _) (by simp; omega)) (by simp only [sx3, encs, sxR, sevalprocAttr] <;> (try simp) <;> (try rfl)) ?_
   rintro _ rfl
   simp only [↓sx0, sxE, encs, sevalprocAttr]
   exact EndW.r [some 0] (by simp) (by simp only [sx4, sxF, encs, kpLL_map, sxR, sevalprocAttr] <;> simp [kpL, kpD]) (by simp only [sx4, sxF, encs, kpLL_map, sxR, sevalprocAttr] <;> simp [kpL, kpD]) (by simp only [sx4, sxF, encs, kpLL_map, sxR, sevalprocAttr] <;> simp [kpL, kpD]) (by simp only [sx4, sxF, encs, kpLL_map, sxR, sevalprocAttr] <;> simp [kpL, kpD])
/-- the stack that lies at a place of a pile that is laid over. -/
def getAt (back rows : Bool) (side cols along across : Nat) : Nat :=
 if rows then (if back then side - 1 - along else along) * cols + across else across * cols + (if back then side - 1 - along else along)
def laidAt (cols rws first : Nat) (rows back : Bool) (ls : List (List Leaf)) (along across : Nat) : List Leaf :=
 let side := if rows then rws else cols
 let a := if back then first - 1 - along else along
 let lb := stkAt ls (getAt back rows side cols a across)
 if 2 * first - 1 - a < side then (stkAt ls (getAt back rows side cols (2 * first - 1 - a) across)).reverse.map (flip rows) ++ lb else lb
def laidG (cols rws first : Nat) (rows back : Bool) (ls : List (List Leaf)) : List (List Leaf) :=
 if rows then grid cols first fun c r => laidAt cols rws first rows back ls r c else grid first rws fun c r => laidAt cols rws first rows back ls c r
theorem getI_at {back rows : Bool} {side cols along across : Nat} (h : along < side) : getI back rows side cols along across = getAt back rows side cols along across := by
 unfold getI getAt
 have : ((side - 1 - along : Nat) : Int) = (side : Int) - 1 - along := by omega
 cases back <;> cases rows <;> simp [Int.natCast_add, Int.natCast_mul, this]
theorem get_lt {back rows : Bool} {cols rws a across : Nat} (ha : a < if rows then rws else cols) (hx : across < if rows then cols else rws) : getAt back rows (if rows then rws else cols) cols a across < rws * cols := by
 unfold getAt
 cases rows
 ·simp only [Bool.false_eq_true, if_false] at ha hx ⊢
  exact cell_lt hx (by split <;> omega)
 ·simp only [if_true] at ha hx ⊢
  exact cell_lt (by split <;> omega) hx
theorem put_at (b back rows : Bool) (cols rws first : Nat) (ls : List (List Leaf)) (hf : FineP ls) (hc : cols ≤ 1000) (hr : rws ≤ 1000) (hn : ls.length = rws * cols) (h1 : first ≤ if rows then rws else cols) (along across : Nat) (hal : along < first) (hac : across < if rows then cols else rws) :
  Ctr Tryz.prog 125 ([(.v (.int .i64 along)), (.v (.int .i64 across))] ++ ofDL (capP b back rows first (if rows then rws else cols : Nat) cols rws ls)) (fun rr => rr = ⟨.row 0, [.own 116 4 ((laidAt cols rws first rows back ls along across).map eL)]⟩) := by
 have hsd : (if rows then rws else cols) ≤ 1000 := by split <;> omega
 have hac2 : across ≤ 1000 := by
  cases rows
  ·simp only [Bool.false_eq_true, if_false] at hac; omega
  ·simp only [if_true] at hac; omega
 have ha : (if back then first - 1 - along else along) < if rows then rws else cols := by
  cases back <;> simp only [if_true, Bool.false_eq_true, if_false] <;> omega
 have haf : (if back then first - 1 - along else along) < first := by
  cases back <;> simp only [if_true, Bool.false_eq_true, if_false] <;> omega
 have hai : (((if back then first - 1 - along else along : Nat)) : Int) = if back then (first : Int) - 1 - along else along := by
  cases back <;> simp only [if_true, Bool.false_eq_true, if_false]; omega
 have hlen : ls[getAt back rows (if rows then rws else cols) cols (if back then first - 1 - along else along) across]? = some _ := stkAt_get (by rw [hn]; exact get_lt ha hac)
 refine put_s b back rows first (if rows then rws else cols : Nat) cols rws along across _ ls hf _ _ _ hai hlen (getI_at ha) (by omega) (by omega) (by omega) (by omega) (by omega) (by omega) (by omega) (by omega) ?_
 unfold laidAt
 simp only []
 generalize (if back then first - 1 - along else along) = a at *
 by_cases hlt : 2 * first - 1 - a < if rows then rws else cols
 ·rw [if_pos hlt, if_pos (by omega)]
  refine ⟨_, _, stkAt_get (by rw [hn]; exact get_lt hlt hac), ?_, rfl⟩
  rw [← getI_at hlt]
  congr 1; omega
 ·rw [if_neg hlt, if_neg (by omega)]
end Go.Proofs.YteajjcbinnjgaaaGreatDoor
/-
 Chapter 6, walks: sheets.
-/
namespace Go.Proofs.YteajjcbinnjgaaaGreatDoor
open Go Go.Vx
set_option linter.unusedSimpArgs false
set_option maxRecDepth 20000
theorem within_s (n lo hi : Int) : Ctr Tryz.prog 26 [(.v (.int .i64 n)), (.v (.int .i64 lo)), (.v (.int .i64 hi))] (fun rr => rr = ⟨(.v (.bool (decide (lo ≤ n ∧ n ≤ hi)))), []⟩) := by
 refine Ctr.of (rs := [.tmp 6]) Tok true Tryz.func26 rfl rfl rfl rfl (by simp [ofDL]) (fun w0 kp => ?_)
 simp only [↓sx0, sxE, encs, sevalprocAttr]
 refine BrW.dec (fun h => ?_) (fun h => ?_)
 ·simp only [↓sx0, sxE, encs, sevalprocAttr]
  refine EndW.fn ?_ ?_ <;> simp only [sx4, encs, kpLL_map, sxR, sevalprocAttr] <;> (try simp [h]) <;> (try omega)
 ·simp only [↓sx0, sxE, encs, sevalprocAttr]
  refine EndW.fn ?_ ?_ <;> simp only [sx4, encs, kpLL_map, sxR, sevalprocAttr] <;> (try simp [h]) <;> (try omega)
def sheetErr (c r : Int) : Int := if 1 ≤ c ∧ c ≤ 8 then (if 1 ≤ r ∧ r ≤ 8 then (if 32 < c * r then 8 else 0) else 2) else 2
theorem checkSheet_s (c r : Int) : Ctr Tryz.prog 74 [(.v (.int .i64 c)), (.v (.int .i64 r))] (fun rr => rr = ⟨(.v (.int .i64 (sheetErr c r))), []⟩) := by
 refine Ctr.of (rs := [.tmp 4]) Tok true Tryz.func74 rfl rfl rfl rfl (by simp [ofDL]) (fun w0 kp => ?_)
 simp only [↓sx0, sxE, encs, sevalprocAttr]
 refine CallI.fn (within_s c 1 8) (by simp only [sx3, encs, sxR, sevalprocAttr] <;> (try simp) <;> (try rfl)) ?_
 simp only [↓sx0, sxE, encs, sevalprocAttr]
 refine BrW.dec (fun h => ?_) (fun h => ?_)
 ·simp only [↓sx0, sxE, encs, sevalprocAttr]
  refine CallI.fn (within_s r 1 8) (by simp only [sx3, encs, sxR, sevalprocAttr] <;> (try simp) <;> (try rfl)) ?_
  simp only [↓sx0, sxE, encs, sevalprocAttr]
  refine BrW.dec (fun h' => ?_) (fun h' => ?_)
  ·have b1 : c * r ≤ 8 * 8 := Int.mul_le_mul h.2 h'.2 (by omega) (by omega)
   have b2 : 0 ≤ c * r := Int.mul_nonneg (by omega) (by omega)
   simp only [↓sx0, sxE, encs, sevalprocAttr]
   (with_reducible refine Vc.go ?_ fun _ => ?_); focus (first | omega | (simp only [InK]; omega) | (simp [InK]; done) | (simp [InK]; omega))
   simp only [↓sx0, sxE, encs, sevalprocAttr]
   refine BrW.dec (fun g => ?_) (fun g => ?_)
   ·simp only [↓sx0, sxE, encs, sevalprocAttr]
    refine EndW.fn ?_ ?_ <;> simp only [sx4, encs, kpLL_map, sxR, sevalprocAttr] <;> (try simp [sheetErr, h, h', g]) <;> (try omega)
   ·simp only [↓sx0, sxE, encs, sevalprocAttr]
    refine EndW.fn ?_ ?_ <;> simp only [sx4, encs, kpLL_map, sxR, sevalprocAttr] <;> (try simp [sheetErr, h, h', g]) <;> (try omega)
  ·simp only [↓sx0, sxE, encs, sevalprocAttr]
   refine EndW.fn ?_ ?_ <;> simp only [sx4, encs, kpLL_map, sxR, sevalprocAttr] <;> (try simp [sheetErr, h, h']) <;> (try omega)
 ·simp only [↓sx0, sxE, encs, sevalprocAttr]
  refine EndW.fn ?_ ?_ <;> simp only [sx4, encs, kpLL_map, sxR, sevalprocAttr] <;> (try simp [sheetErr, h]) <;> (try omega)
def oneL (c r : Nat) : List Leaf := [⟨c, r, 0, 0⟩]
def flatG (cols rows : Nat) : List (List Leaf) := grid cols rows oneL
theorem flat_s (cols rows : Nat) (hc : cols ≤ 1000) (hr : rows ≤ 1000) : Ctr Tryz.prog 75 [(.v (.int .i64 cols)), (.v (.int .i64 rows))] (fun rr => rr = ⟨.agg [(.v (.int .i64 cols)), (.v (.int .i64 rows)), .sl true 1 ((flatG cols rows).map eK)], []⟩) := by
 have hsz : rows * cols ≤ 1000 * 1000 := Nat.mul_le_mul hr hc
 refine Ctr.of (rs := [.cell 4 137]) Tok true Tryz.func75 rfl rfl rfl rfl (by simp [ofDL]) (fun w0 kp => ?_)
 simp only [↓sx0, sxE, encs, sevalprocAttr]
 refine LoopW.comp [0, 4, 5, 11, 12] (by simp only [sx2, encs, sxR, sevalprocAttr] <;> (try simp) <;> (try omega)) ?_
 simp only [sx2, sxR, sevalprocAttr]
 refine LoopW.up Tok (fun r : Nat => [(12, (.v (.int .i64 r)))]) (fun r => [(1, [(.v (.int .i64 cols)), (.v (.int .i64 rows)), .row 0])]) (fun r => []) (fun r => [.own 112 1 ((grid cols r oneL).map eK)]) (fun r => r ≤ rows) (fun r => rows - r) (0) (by simp only [sx2, encs, sxR, sevalprocAttr] <;> (try simp) <;> (try omega)) ?_ ?_
 ·omega
 rintro r hr1
 simp only [↓sx0, sxE, encs, sevalprocAttr]
 refine BrW.dec (fun hlt => ?_) (fun hlt => ?_)
 ·simp only [↓sx0, sxE, encs, sevalprocAttr]
  have hr2 : r < rows := by omega
  refine LoopW.comp [0, 4, 5, 6, 11, 12, 15, 16] (by simp only [sx2, encs, sxR, sevalprocAttr] <;> (try simp) <;> (try omega)) ?_
  simp only [sx2, sxR, sevalprocAttr]
  refine LoopW.up Tok (fun k : Nat => [(16, (.v (.int .i64 k)))]) (fun k => []) (fun k => [(0, ((grid cols r oneL) ++ gridRow k oneL r).map eK)]) (fun k => []) (fun k => k ≤ cols) (fun k => cols - k) (0) (by simp only [sx2, encs, sxR, sevalprocAttr] <;> (try simp) <;> (try omega)) ?_ ?_
  ·omega
  rintro k hk1
  have hlen : r * cols + k ≤ 1000000 := by
   have h1 : (r + 1) * cols ≤ rows * cols := Nat.mul_le_mul_right _ hr2
   rw [Nat.succ_mul] at h1
   omega
  simp only [↓sx0, sxE, encs, sevalprocAttr]
  refine BrW.dec (fun hlt2 => ?_) (fun hlt2 => ?_)
  ·simp only [↓sx0, sxE, encs, sevalprocAttr]
   (with_reducible refine Vc.go ?_ fun _ => ?_); focus (first | omega | (simp only [InK]; omega) | (simp [grid_length, gridRow_length, InK]; done) | (simp [grid_length, gridRow_length, InK]; omega))
   simp only [↓sx0, sxE, encs, sevalprocAttr]
   (with_reducible refine Vc.go ?_ fun _ => ?_); focus (first | omega | (simp only [InK]; omega) | (simp [InK]; done) | (simp [InK]; omega))
   simp only [↓sx0, sxE, encs, sevalprocAttr]
   refine ⟨k + 1, StLe.auto (by simp only [sx2, encs, sxR, sevalprocAttr] <;> (try simp [gridRow_succ, oneL, encs]) <;> (try omega)), ?_, ?_⟩
   ·omega
   ·omega
  ·simp only [↓sx0, sxE, encs, sevalprocAttr]
   have : k = cols := by omega
   subst this
   (with_reducible refine Vc.go ?_ fun _ => ?_); focus (first | omega | (simp only [InK]; omega) | (simp [InK]; done) | (simp [InK]; omega))
   simp only [↓sx0, sxE, encs, sevalprocAttr]
   refine ⟨r + 1, StLe.auto (by simp only [sx2, encs, sxR, sevalprocAttr] <;> (try simp [grid_succ, encs]) <;> (try omega)), ?_, ?_⟩
   ·omega
   ·omega
 ·simp only [↓sx0, sxE, encs, sevalprocAttr]
  have : r = rows := by omega
  subst this
  refine EndW.fn ?_ ?_ <;> simp only [sx4, encs, kpLL_map, sxR, sevalprocAttr] <;> (try simp [flatG]) <;> (try omega)
end Go.Proofs.YteajjcbinnjgaaaGreatDoor
