/-
  Chapter 6, walks: stacks turned.
-/
import Derived.Test.YtfpkpokkgbobmaaVW2
namespace Go.Proofs.Ytfpkpokkgbobmaa
open Go Go.Vx
set_option linter.unusedSimpArgs false
set_option maxRecDepth 20000
def flip (rnd : Bool) (l : Leaf) : Leaf := ⟨l.col, l.row, 1 - l.over, if rnd then 1 - l.round else l.round⟩
def rnd1 (l : Leaf) : Leaf := ⟨l.col, l.row, l.over, 1 - l.round⟩
def ovr1 (l : Leaf) : Leaf := ⟨l.col, l.row, 1 - l.over, l.round⟩
/-- turns are turns. -/
def Fine (l : List Leaf) : Prop := ∀ x ∈ l, (0 ≤ x.over ∧ x.over ≤ 1) ∧ 0 ≤ x.round ∧ x.round ≤ 1
/-- turned: a stack that is turned over, and round. -/
theorem turned_s (b : Bool) (l : List Leaf) (rnd : Bool) (hf : Fine l) (hl : l.length ≤ 1000000) :
    Ctr Try.prog 110 [.sl b 4 (l.map eL), (.v (.bool (rnd)))] (fun rr => rr = ⟨.row 0, [.own 42 4 ((l.reverse.map (flip rnd)).map eL)]⟩) := by
  refine Ctr.of (rs := [.tmp 4]) Tok false Try.func110 rfl rfl rfl rfl (by simp [ofDL]) (fun w0 kp => ?_)
  simp only [↓sxD, ↓sxP0, sxP1, sxF, sxA, sxS, sxK, encs, tys, sxN, sevalprocAttr, ne_eq, decide_true, decide_false]
  refine CallI.ctr (clone_s b (l.map eL) (by simp [kpLL_map, encs, kpL, kpD]) (by simpa using hl)) (by simp only [sxA, sxL, sxF, encs, sxN, sevalprocAttr, ne_eq, decide_true, decide_false] <;> (try simp)) ?_
  rintro _ rfl
  simp only [↓sxD, ↓sxP0, sxP1, sxF, sxA, sxS, sxK, encs, tys, sxN, sevalprocAttr, ne_eq, decide_true, decide_false]
  refine CallI.inl (rs := []) Tok Try.func119 rfl rfl rfl rfl (by simp) (fun ρ σ μ => ?_)
  simp only [↓sxD, ↓sxP0, sxP1, sxF, sxA, sxS, sxK, encs, tys, sxN, sevalprocAttr, ne_eq, decide_true, decide_false]
  (with_reducible refine Vc.go ?_ fun _ => ?_); focus (first | omega | (simp only [InK]; omega) | (simp [InK]; done) | (simp [InK]; omega))
  simp only [↓sxD, ↓sxP0, sxP1, sxF, sxA, sxS, sxK, encs, tys, sxN, sevalprocAttr, ne_eq, decide_true, decide_false]
  refine LoopW.comp [0, 2, 3] (by simp only [sxS, sxL, sxF, encs, sxN, sevalprocAttr, ne_eq, decide_true, decide_false] <;> (try simp) <;> (try omega)) ?_
  simp only [sxS, sxF, sxN, sevalprocAttr, ne_eq, decide_true, decide_false]
  refine LoopW.up Tok (fun i : Nat => [(2, (.v (.int .i64 i))), (3, (.v (.int .i64 ((l.length : Int) - 1 - i))))]) (fun i => []) (fun i => [(0, (rv l i).map eL)]) (fun i => []) (fun i => 2 * i ≤ l.length) (fun i => l.length - i) (0) (by simp only [sxS, sxL, sxF, encs, sxN, sevalprocAttr, ne_eq, decide_true, decide_false] <;> (try simp [rv_zero, encs]) <;> (try omega)) ?_ ?_
  · omega
  · intro i hi
    simp only [↓sxD, ↓sxP0, sxP1, sxF, sxA, sxS, sxK, encs, tys, sxN, sevalprocAttr, ne_eq, decide_true, decide_false]
    refine BrW.dec (fun hlt => ?_) (fun hlt => ?_)
    · simp only [↓sxD, ↓sxP0, sxP1, sxF, sxA, sxS, sxK, encs, tys, sxN, sevalprocAttr, ne_eq, decide_true, decide_false]
      have hj : i < l.length := by omega
      have hj2 : l.length - 1 - i < l.length := by omega
      have ej : ((l.length : Int) - 1 - i).toNat = l.length - 1 - i := by omega
      have g1 : (rv l i)[l.length - 1 - i]? = some l[l.length - 1 - i] := by rw [rv_at l i _ hj2 (by omega) (by omega), List.getElem?_eq_getElem hj2]
      have g2 : (rv l i)[i]? = some l[i] := by rw [rv_at l i _ hj (by omega) (by omega), List.getElem?_eq_getElem hj]
      have hst := rv_step l i (by omega)
      have h1 : ((rv l i).map eL).modify ((i : Int)).toNat (modE · 0 (eL l[l.length - 1 - i])) = ((rv l i).set i l[l.length - 1 - i]).map eL := by rw [Int.toNat_natCast]; exact modify_map g2 _ rfl
      have h2 : (((rv l i).set i l[l.length - 1 - i]).map eL).modify ((l.length : Int) - 1 - i).toNat (modE · 0 (eL l[i])) = (rv l (i + 1)).map eL := by
        rw [ej, ← hst]; exact modify_map (x := l[l.length - 1 - i]) (by rw [List.getElem?_set, if_neg (by omega)]; exact g1) _ rfl
      simp only [encs] at h1 h2
      refine DrawW.plan Tok mixed (.q 0 <| .q 1 <| .q 2 <| .q 3 <| .q 4 <| .q 5 <| .q 6 <| .q 7 <| .q 8 <| .q 9 <| .q 10 <| .q 11 <| .q 12 <| .e 13 [] <| .q 14 <| .e 15 [] <| .done) (by kernel_rfl) (by kernel_rfl) ?_
      simp only [↓sxD, ↓sxP0, sxP1, sxF, sxA, sxS, sxK, encs, tys, sxN, sevalprocAttr, ne_eq, decide_true, decide_false]
      (with_reducible refine Vc.go ?_ fun _ => ?_); focus (first | omega | (simp only [InK]; omega) | (simp [rv_length, InK]; done) | (simp [rv_length, InK]; omega))
      simp only [↓sxD, ↓sxP0, sxP1, sxF, sxA, sxS, sxK, encs, tys, sxN, sevalprocAttr, ne_eq, decide_true, decide_false]
      refine IxW.map l[l.length - 1 - i] (by omega) (by rw [ej]; exact g1) ?_
      simp only [↓sxD, ↓sxP0, sxP1, sxF, sxA, sxS, sxK, encs, tys, sxN, sevalprocAttr, ne_eq, decide_true, decide_false]
      (with_reducible refine Vc.go ?_ fun _ => ?_); focus (first | omega | (simp only [InK]; omega) | (simp [rv_length, InK]; done) | (simp [rv_length, InK]; omega))
      simp only [↓sxD, ↓sxP0, sxP1, sxF, sxA, sxS, sxK, encs, tys, sxN, sevalprocAttr, ne_eq, decide_true, decide_false]
      refine IxW.map l[i] (by omega) (by simpa using g2) ?_
      simp only [↓sxD, ↓sxP0, sxP1, sxF, sxA, sxS, sxK, encs, tys, sxN, sevalprocAttr, ne_eq, decide_true, decide_false]
      (with_reducible refine Vc.go ?_ fun _ => ?_); focus (first | omega | (simp only [InK]; omega) | (simp [rv_length, InK]; done) | (simp [rv_length, InK]; omega))
      simp only [↓sxD, ↓sxP0, sxP1, sxF, sxA, sxS, sxK, encs, tys, sxN, sevalprocAttr, ne_eq, decide_true, decide_false]
      (with_reducible refine Vc.go ?_ fun _ => ?_); focus (first | omega | (simp only [InK]; omega) | (simp [rv_length, InK]; done) | (simp [rv_length, InK]; omega))
      simp only [↓sxD, ↓sxP0, sxP1, sxF, sxA, sxS, sxK, encs, tys, sxN, sevalprocAttr, ne_eq, decide_true, decide_false]
      (with_reducible refine Vc.go ?_ fun _ => ?_); focus (first | omega | (simp only [InK]; omega) | (simp [rv_length, InK]; done) | (simp [rv_length, InK]; omega))
      simp only [↓sxD, ↓sxP0, sxP1, sxF, sxA, sxS, sxK, encs, tys, sxN, sevalprocAttr, ne_eq, decide_true, decide_false]
      (with_reducible refine Vc.go ?_ fun _ => ?_); focus (first | omega | (simp only [InK]; omega) | (simp [rv_length, InK]; done) | (simp [rv_length, InK]; omega))
      simp only [↓sxD, ↓sxP0, sxP1, sxF, sxA, sxS, sxK, encs, tys, sxN, sevalprocAttr, ne_eq, decide_true, decide_false]
      (with_reducible refine Vc.go ?_ fun _ => ?_); focus (first | omega | (simp only [InK]; omega) | (simp [InK]; done) | (simp [InK]; omega))
      simp only [↓sxD, ↓sxP0, sxP1, sxF, sxA, sxS, sxK, encs, tys, sxN, sevalprocAttr, ne_eq, decide_true, decide_false]
      (with_reducible refine Vc.go ?_ fun _ => ?_); focus (first | omega | (simp only [InK]; omega) | (simp [InK]; done) | (simp [InK]; omega))
      simp only [↓sxD, ↓sxP0, sxP1, sxF, sxA, sxS, sxK, encs, tys, sxN, sevalprocAttr, ne_eq, decide_true, decide_false]
      rw [h1, h2]
      refine ⟨i + 1, StLe.auto (by simp only [sxS, sxL, sxF, encs, sxN, sevalprocAttr, ne_eq, decide_true, decide_false] <;> (try simp) <;> (try omega)), ?_, ?_⟩
      · omega
      · omega
    · simp only [↓sxD, ↓sxP0, sxP1, sxF, sxA, sxS, sxK, encs, tys, sxN, sevalprocAttr, ne_eq, decide_true, decide_false]
      rw [rv_end l i (by omega) (by omega)]
      generalize hr : l.reverse = r
      have hrl : r.length = l.length := by rw [← hr]; simp
      have hfr : Fine r := fun x hx => hf x (by rw [← hr] at hx; simpa using hx)
      clear hi hlt
      skip
      refine LoopW.comp [1, 5, 12, 13] (by simp only [sxS, sxL, sxF, encs, sxN, sevalprocAttr, ne_eq, decide_true, decide_false] <;> (try simp) <;> (try omega)) ?_
      simp only [sxS, sxF, sxN, sevalprocAttr, ne_eq, decide_true, decide_false]
      refine LoopW.up Tok (fun k : Nat => [(13, (.v (.int .i64 k)))]) (fun k => []) (fun k => [(0, (chg (flip rnd) r k).map eL)]) (fun k => []) (fun k => k ≤ r.length) (fun k => r.length - k) (0) (by simp only [sxS, sxL, sxF, encs, sxN, sevalprocAttr, ne_eq, decide_true, decide_false] <;> (try simp [chg_zero, encs]) <;> (try omega)) ?_ ?_
      · omega
      intro k hk
      simp only [↓sxD, ↓sxP0, sxP1, sxF, sxA, sxS, sxK, encs, tys, sxN, sevalprocAttr, ne_eq, decide_true, decide_false]
      refine BrW.dec (fun hlt => ?_) (fun hlt => ?_)
      · simp only [↓sxD, ↓sxP0, sxP1, sxF, sxA, sxS, sxK, encs, tys, sxN, sevalprocAttr, ne_eq, decide_true, decide_false]
        have hk' : k < r.length := by omega
        have hg := chg_at (flip rnd) r k hk'
        obtain ⟨⟨f1, f2⟩, f3, f4⟩ := hfr r[k] (List.getElem_mem hk')
        have hst := chg_step (flip rnd) r k hk'
        have h1 : ((chg (flip rnd) r k).map eL).modify ((k : Int)).toNat (modE · 2 [.v (.int .i64 (1 - r[k].over))]) = ((chg (flip rnd) r k).set k (ovr1 r[k])).map eL := by rw [Int.toNat_natCast]; exact modify_map hg _ rfl
        have hg2 : ((chg (flip rnd) r k).set k (ovr1 r[k]))[k]? = some (ovr1 r[k]) := List.getElem?_set_self (by simpa using hk')
        have h2 : (((chg (flip rnd) r k).set k (ovr1 r[k])).map eL).modify ((k : Int)).toNat (modE · 3 [.v (.int .i64 (1 - r[k].round))]) = ((chg (flip rnd) r k).set k (rnd1 (ovr1 r[k]))).map eL := by rw [Int.toNat_natCast, modify_map hg2 (rnd1 (ovr1 r[k])) rfl, List.set_set]
        (with_reducible refine Vc.go ?_ fun _ => ?_); focus (first | omega | (simp only [InK]; omega) | (simp [chg_length, InK]; done) | (simp [chg_length, InK]; omega))
        simp only [↓sxD, ↓sxP0, sxP1, sxF, sxA, sxS, sxK, encs, tys, sxN, sevalprocAttr, ne_eq, decide_true, decide_false]
        refine IxW.map r[k] (by omega) (by simpa using hg) ?_
        simp only [↓sxD, ↓sxP0, sxP1, sxF, sxA, sxS, sxK, encs, tys, sxN, sevalprocAttr, ne_eq, decide_true, decide_false]
        (with_reducible refine Vc.go ?_ fun _ => ?_); focus (first | omega | (simp only [InK]; omega) | (simp [InK]; done) | (simp [InK]; omega))
        simp only [↓sxD, ↓sxP0, sxP1, sxF, sxA, sxS, sxK, encs, tys, sxN, sevalprocAttr, ne_eq, decide_true, decide_false]
        (with_reducible refine Vc.go ?_ fun _ => ?_); focus (first | omega | (simp only [InK]; omega) | (simp [chg_length, InK]; done) | (simp [chg_length, InK]; omega))
        simp only [↓sxD, ↓sxP0, sxP1, sxF, sxA, sxS, sxK, encs, tys, sxN, sevalprocAttr, ne_eq, decide_true, decide_false]
        (with_reducible refine Vc.go ?_ fun _ => ?_); focus (first | omega | (simp only [InK]; omega) | (simp [chg_length, InK]; done) | (simp [chg_length, InK]; omega))
        simp only [↓sxD, ↓sxP0, sxP1, sxF, sxA, sxS, sxK, encs, tys, sxN, sevalprocAttr, ne_eq, decide_true, decide_false]
        rw [h1]
        refine BrW.of (fun hb => ?_) (fun hb => ?_)
        · have e : rnd1 (ovr1 r[k]) = flip rnd r[k] := by simp [flip, rnd1, ovr1, hb]
          simp only [↓sxD, ↓sxP0, sxP1, sxF, sxA, sxS, sxK, encs, tys, sxN, sevalprocAttr, ne_eq, decide_true, decide_false]
          (with_reducible refine Vc.go ?_ fun _ => ?_); focus (first | omega | (simp only [InK]; omega) | (simp [chg_length, InK]; done) | (simp [chg_length, InK]; omega))
          simp only [↓sxD, ↓sxP0, sxP1, sxF, sxA, sxS, sxK, encs, tys, sxN, sevalprocAttr, ne_eq, decide_true, decide_false]
          refine IxW.map (ovr1 r[k]) (by omega) (by simpa using hg2) ?_
          simp only [↓sxD, ↓sxP0, sxP1, sxF, sxA, sxS, sxK, encs, tys, sxN, sevalprocAttr, ne_eq, decide_true, decide_false]
          (with_reducible refine Vc.go ?_ fun _ => ?_); focus (first | omega | (simp only [InK]; omega) | (simp [ovr1, InK]; done) | (simp [ovr1, InK]; omega))
          simp only [↓sxD, ↓sxP0, sxP1, sxF, sxA, sxS, sxK, encs, tys, sxN, sevalprocAttr, ne_eq, decide_true, decide_false]
          (with_reducible refine Vc.go ?_ fun _ => ?_); focus (first | omega | (simp only [InK]; omega) | (simp [chg_length, InK]; done) | (simp [chg_length, InK]; omega))
          simp only [↓sxD, ↓sxP0, sxP1, sxF, sxA, sxS, sxK, encs, tys, sxN, sevalprocAttr, ne_eq, decide_true, decide_false]
          (with_reducible refine Vc.go ?_ fun _ => ?_); focus (first | omega | (simp only [InK]; omega) | (simp [chg_length, InK]; done) | (simp [chg_length, InK]; omega))
          simp only [↓sxD, ↓sxP0, sxP1, sxF, sxA, sxS, sxK, encs, tys, sxN, sevalprocAttr, ne_eq, decide_true, decide_false]
          (with_reducible refine Vc.go ?_ fun _ => ?_); focus (first | omega | (simp only [InK]; omega) | (simp [InK]; done) | (simp [InK]; omega))
          simp only [↓sxD, ↓sxP0, sxP1, sxF, sxA, sxS, sxK, encs, tys, sxN, sevalprocAttr, ne_eq, decide_true, decide_false]
          rw [show (ovr1 r[k]).round = r[k].round from rfl, h2, e, hst]
          refine ⟨k + 1, StLe.auto (by simp only [sxS, sxL, sxF, encs, sxN, sevalprocAttr, ne_eq, decide_true, decide_false] <;> (try simp) <;> (try omega)), ?_, ?_⟩
          · omega
          · omega
        · have e : ovr1 r[k] = flip rnd r[k] := by simp [flip, ovr1, hb]
          rw [e, hst]
          simp only [↓sxD, ↓sxP0, sxP1, sxF, sxA, sxS, sxK, encs, tys, sxN, sevalprocAttr, ne_eq, decide_true, decide_false]
          (with_reducible refine Vc.go ?_ fun _ => ?_); focus (first | omega | (simp only [InK]; omega) | (simp [InK]; done) | (simp [InK]; omega))
          simp only [↓sxD, ↓sxP0, sxP1, sxF, sxA, sxS, sxK, encs, tys, sxN, sevalprocAttr, ne_eq, decide_true, decide_false]
          refine ⟨k + 1, StLe.auto (by simp only [sxS, sxL, sxF, encs, sxN, sevalprocAttr, ne_eq, decide_true, decide_false] <;> (try simp) <;> (try omega)), ?_, ?_⟩
          · omega
          · omega
      · simp only [↓sxD, ↓sxP0, sxP1, sxF, sxA, sxS, sxK, encs, tys, sxN, sevalprocAttr, ne_eq, decide_true, decide_false]
        have hke : k = r.length := by omega
        subst hke
        rw [chg_end]
        exact EndW.r [some 0] (by simp) (by simp only [sxL, sxF, encs, kpLL_map, sxN, sevalprocAttr, ne_eq, decide_true, decide_false] <;> simp [kpL, kpD]) (by simp only [sxL, sxF, encs, kpLL_map, sxN, sevalprocAttr, ne_eq, decide_true, decide_false] <;> simp [kpL, kpD]) (by simp only [sxL, sxF, encs, kpLL_map, sxN, sevalprocAttr, ne_eq, decide_true, decide_false] <;> simp [kpL, kpD]) (by simp only [sxL, sxF, encs, kpLL_map, sxN, sevalprocAttr, ne_eq, decide_true, decide_false] <;> simp [kpL, kpD])
end Go.Proofs.Ytfpkpokkgbobmaa
