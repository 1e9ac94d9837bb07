/-
 Chapter 8, walks: marks without one of them.
-/
import Derived.Test.YtenohgpackcjbaaVW28
namespace Go.Proofs.Ytenohgpackcjbaa
open Go Go.Vx
set_option linter.unusedSimpArgs false
set_option linter.unusedVariables false
set_option maxRecDepth 20000
theorem cloneM_s (b : Bool) (els : List (List D)) (hk : kpLL els) (hl : els.length ≤ 1000000) : Ctr Try.prog 71 [.sl b 7 els] (fun rr => rr = ⟨.row 0, [.own 24 7 els]⟩) := by
 refine Ctr.of (rs := [.tmp 2]) Tok false Try.func71 rfl rfl rfl rfl (by simp [ofDL]) (fun w0 kp => ?_)
 simp only [↓sx0, sxE, encs, sevalprocAttr]
 intro z hz
 refine BrW.of (fun h => ?_) (fun h => ?_)
 ·simp only [↓sx0, sxE, encs, sevalprocAttr]
  rw [hz h]
  exact EndW.r [none] (by simp) (by simp only [sx4, sxF, encs, kpLL_map, sxR, sevalprocAttr] <;> simp) (by simp only [sx4, sxF, encs, kpLL_map, sxR, sevalprocAttr] <;> simp) (by simp only [sx4, sxF, encs, kpLL_map, sxR, sevalprocAttr] <;> simp) (by simp only [sx4, sxF, encs, kpLL_map, sxR, sevalprocAttr] <;> simp)
 ·simp only [↓sx0, sxE, encs, sevalprocAttr]
  (with_reducible refine Vc.go ?_ fun _ => ?_); focus (first | omega | (simp only [InK]; omega) | (simp [InK]; done) | (simp [InK]; omega))
  simp only [↓sx0, sxE, encs, sevalprocAttr]
  exact EndW.r [some 1] (by simp) (by simp only [sx4, sxF, encs, kpLL_map, sxR, sevalprocAttr] <;> simp [hk]) (by simp only [sx4, sxF, encs, kpLL_map, sxR, sevalprocAttr] <;> simp [hk]) (by simp only [sx4, sxF, encs, kpLL_map, sxR, sevalprocAttr] <;> simp [hk]) (by simp only [sx4, sxF, encs, kpLL_map, sxR, sevalprocAttr] <;> simp [hk])
theorem kpM (l : List Mk) : kpLL (l.map eM) := by simp [kpLL_map, eM, kpL, kpD]
def mC (m : Mk) : List SV := [.v (.int .i64 m.mark), .v (.int .i64 m.part), .v (.int .i64 m.word), .v (.string m.old), .v (.string m.new), .v (.int .i64 m.was), .v (.int .i64 m.kind)]
/-- marks behind one that goes, with it. -/
def stF : Mk → List Mk → Nat → List Mk → List Mk × Int × Int
 | _, [], _, out => (out, 0, 0)
 | m, x :: r, i, out => if (swapF (orderP m x)).2 = 0 then stF (swapF (orderP m x)).1.2 r (i + 1) (out ++ [(swapF (orderP m x)).1.1]) else ([], (i : Int), (swapF (orderP m x)).2)
structure SS where
 i : Nat
 m : Mk
 out : List Mk
theorem swap_ok {a b : Mk} (ha : mkErr a = 0) (hb : mkErr b = 0) (h : (swapF (orderP a b)).2 = 0) : mkErr (swapF (orderP a b)).1.1 = 0 ∧ mkErr (swapF (orderP a b)).1.2 = 0 := by
 rcases ho : orderP a b with _ | ⟨x, y⟩
 ·rw [ho] at h; simp [swapF] at h
 ·obtain ⟨⟨k1, k2, k3, k4, k5, k6⟩, j1, j2, j3, j4, j5, j6⟩ := order_keep ho
  obtain ⟨a1, a2, a3, a4⟩ := mk_ok ha
  obtain ⟨b1, b2, b3, b4⟩ := mk_ok hb
  rw [ho] at h
  simp only [swapF] at h ⊢
  split at h
  ·rename_i hr
   rw [if_pos hr]
   split at h
   ·simp at h
   ·rename_i hp
    rw [if_neg hp]
    simp only
    have z7 : ∀ {u v : Mk}, bdE u = 0 → u.mark = v.mark → (u.mark = 7 → v.word = u.word) → v.mark = 7 → v.word = 0 := fun hu hm hw h7 => by
     rw [hw (by omega)]
     unfold bdE at hu
     split at hu
     ·omega
     ·rename_i hn; exact Decidable.byContradiction fun hc => hn (.inr ⟨by omega, hc⟩)
    constructor
    ·refine mkErr_of (by omega) hr.2 (by rw [j1, j2, j3, j4, j5]; exact b3) ?_
     rw [bd_keep (z7 b4 j1.symm j6), if_neg (fun h => hp (.inl h))]
    ·refine mkErr_of (by omega) hr.1 (by rw [k1, k2, k3, k4, k5]; exact a3) ?_
     rw [bd_keep (z7 a4 k1.symm k6), if_neg (fun h => hp (.inr h))]
  ·simp at h
def stV (l : List Mk) (n : Int) : List Mk × Int × Int :=
 if lstErr l = 0 then (if 0 ≤ n ∧ n ≤ (l.length : Int) - 1 then stF (l.getD n.toNat mk0) (l.drop (n.toNat + 1)) (n.toNat + 1) (l.take n.toNat) else ([], 0, 6)) else ([], 0, lstErr l)
theorem lstE_all : ∀ {l : List Mk}, lstE l = 0 → ∀ m ∈ l, mkErr m = 0
 | [], _, m, h => by cases h
 | x :: l, he, m, h => by
  unfold lstE at he
  split at he
  ·rename_i hx
   rcases List.mem_cons.1 h with rfl | h
   ·exact hx
   ·exact lstE_all he m h
  ·rename_i hx; exact absurd he hx
theorem lst_all {l : List Mk} (h : lstErr l = 0) : l.length ≤ 60 ∧ ∀ m ∈ l, mkErr m = 0 := by
 unfold lstErr at h
 split at h
 ·omega
 ·exact ⟨by omega, lstE_all h⟩
end Go.Proofs.Ytenohgpackcjbaa
/-
 Chapter 8, walks: marks without one of them (reference).
-/
namespace Go.Proofs.Ytenohgpackcjbaa
open Go Go.Vx
set_option linter.unusedSimpArgs false
set_option linter.unusedVariables false
set_option maxRecDepth 20000
end Go.Proofs.Ytenohgpackcjbaa
