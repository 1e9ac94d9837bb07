/-
  Chapter 6: what is printed on both sides, cut again (no program in sight).
-/
import Derived.Test.YtfpkpokkgbobmaaVW28
namespace Go.Proofs.Ytfpkpokkgbobmaa
open Go Go.Vx
set_option linter.unusedSimpArgs false
theorem grid_any {α : Type} {p : α → Bool} {cols rows : Nat} {f : Nat → Nat → α} (h : ∀ k q, k < cols → q < rows → p (f k q) = true) : (grid cols rows f).any (fun x => !p x) = false := by
  refine List.any_eq_false.2 fun x hx => ?_
  obtain ⟨k, q, hk, hq, rfl⟩ := grid_mem hx
  simp [h k q hk hq]
theorem cl_at {cn rn : Nat} {l : List Cell} (hs : (schS cn rn l).2 = 0) (hl : l.length = rn * cn) {q k : Nat} (hq : q < rn) (hk : k < cn) : clOk l.length (l.getD (q * cn + k) zC) = true :=
  sch_cl hs _ (List.mem_of_getElem? (twGet zC hl hq hk rfl).2)
theorem cmP_ok {t : Bool} {cn rn : Nat} {l : List Cell} (hs : (schS cn rn l).2 = 0) (hl : l.length = rn * cn) (hc : cn ≤ 8) (hr : rn ≤ 8) {k q : Nat} (hk : k < cmC t cn) (hq : q < cmR t rn) : pgOk (cmP t cn rn l k q) = true := by
  have hrc : rn * cn ≤ 8 * 8 := Nat.mul_le_mul hr hc
  unfold cmP
  by_cases h : k < cn ∧ q < rn
  · have := clOk_iff.1 (cl_at hs hl h.2 h.1)
    simp only [if_pos h, pgOk, decide_eq_true_eq]; omega
  · rw [if_neg h]
    cases t
    · simp only [cmC, cmR, Bool.false_eq_true, if_false] at hk hq ⊢
      have := clOk_iff.1 (cl_at hs hl hq (show 2 * cn - 1 - k < cn by omega))
      simp only [pgOk, decide_eq_true_eq]; omega
    · simp only [cmC, cmR, if_true] at hk hq ⊢
      have := clOk_iff.1 (cl_at hs hl (show 2 * rn - 1 - q < rn by omega) hk)
      simp only [pgOk, decide_eq_true_eq]; omega
theorem twCell_grid {t : Bool} {C R k q : Nat} (g : Nat → Nat → Page) (hk : k < C) (hq : q < R) :
    twCell t C R (grid C R g) k q = ⟨(g k q).page, (g k q).turn, if t then (g k (R - 1 - q)).page else (g (C - 1 - k) q).page, if t then 1 - (g k (R - 1 - q)).turn else (g (C - 1 - k) q).turn⟩ := by
  simp only [twCell, grid_getD zP g hq hk, grid_getD zP g (show R - 1 - q < R by omega) hk, grid_getD zP g hq (show C - 1 - k < C by omega)]
def cmV (t : Bool) (cn rn : Nat) (l : List Cell) : List Page := grid (cmC t cn) (cmR t rn) (cmP t cn rn l)
def cmX (t : Bool) (cn rn : Nat) (l : List Cell) : List Cell := grid (cmC t cn) (cmR t rn) (twCell t (cmC t cn) (cmR t rn) (cmV t cn rn l))
theorem cm_twice {t : Bool} {cn rn : Nat} {l : List Cell} (hs : (schS cn rn l).2 = 0) (hl : l.length = rn * cn) (hc : cn ≤ 8) (hr : rn ≤ 8) (hk : sheetErr (cmC t cn : Nat) (cmR t rn : Nat) = 0) :
    twiceS (cmC t cn : Nat) (cmR t rn : Nat) (cmV t cn rn l) t = (((cmC t cn : Nat) : Int), ((cmR t rn : Nat) : Int), cmX t cn rn l, 0) := by
  have e : ((cmV t cn rn l).length : Int) = ((cmC t cn : Nat) : Int) * ((cmR t rn : Nat) : Int) := by
    rw [cmV, grid_length]; push_cast; exact Int.mul_comm _ _
  have h3 : (cmV t cn rn l).any (fun x => !pgOk x) = false := grid_any fun k q hk hq => cmP_ok hs hl hc hr hk hq
  simp only [twiceS, hk, e, h3, ne_eq, not_true_eq_false, if_false, Bool.false_eq_true, Int.toNat_natCast]
  rfl
theorem pgOk_flip (p t : Int) : pgOk ⟨p, 1 - t⟩ = pgOk ⟨p, t⟩ := by
  simp only [pgOk, decide_eq_decide]; omega
theorem cm_ceOk {t : Bool} {cn rn : Nat} {l : List Cell} (hs : (schS cn rn l).2 = 0) (hl : l.length = rn * cn) (hc : cn ≤ 8) (hr : rn ≤ 8) : (cmX t cn rn l).any (fun x => !ceOk x) = false := by
  refine grid_any fun k q hk hq => ?_
  rw [cmV, twCell_grid _ hk hq]
  have h1 := cmP_ok hs hl hc hr hk hq
  simp only [ceOk, Bool.and_eq_true]
  refine ⟨h1, ?_⟩
  cases t
  · simp only [Bool.false_eq_true, if_false]
    exact cmP_ok hs hl hc hr (show cmC false cn - 1 - k < cmC false cn by omega) hq
  · simp only [if_true]
    rw [pgOk_flip]
    exact cmP_ok hs hl hc hr hk (show cmR true rn - 1 - q < cmR true rn by omega)
theorem cm_odd (t : Bool) (cn rn : Nat) : hvOdd t (cmC t cn) (cmR t rn) = false := by
  cases t <;> simp [hvOdd, cmC, cmR]
theorem cm_hC (t : Bool) (cn : Nat) : hvC t (cmC t cn) = cn := by cases t <;> simp [hvC, cmC]
theorem cm_hR (t : Bool) (rn : Nat) : hvR t (cmR t rn) = rn := by cases t <;> simp [hvR, cmR]
theorem cell_eta (x : Cell) : (⟨x.front, x.fturn, x.back, x.bturn⟩ : Cell) = x := rfl
theorem cm_a {t : Bool} {cn rn : Nat} {l : List Cell} (hl : l.length = rn * cn) : grid cn rn (hvA (cmC t cn) (cmX t cn rn l)) = l := by
  conv => rhs; rw [← grid_selfG zC hl]
  refine grid_ext fun k q hk hq => ?_
  cases t
  · have h1 : k < cmC false cn := by simp only [cmC, Bool.false_eq_true, if_false]; omega
    have h2 : q < cmR false rn := hq
    have e1 : k < cn ∧ q < rn := ⟨hk, hq⟩
    have e2 : ¬ (2 * cn - 1 - k < cn) := by omega
    rw [hvA, cmX, grid_getD zC _ h2 h1, cmV, twCell_grid _ h1 h2]
    simp only [Bool.false_eq_true, if_false, cmP, e1, cmC, e2, and_self, false_and, if_true, show 2 * cn - 1 - (2 * cn - 1 - k) = k by omega]
  · have h1 : k < cmC true cn := hk
    have h2 : q < cmR true rn := by simp only [cmR, if_true]; omega
    have e1 : k < cn ∧ q < rn := ⟨hk, hq⟩
    have e2 : ¬ (2 * rn - 1 - q < rn) := by omega
    rw [hvA, cmX, grid_getD zC _ h2 h1, cmV, twCell_grid _ h1 h2]
    simp only [if_true, cmP, e1, cmR, e2, and_self, and_false, if_false, show 2 * rn - 1 - (2 * rn - 1 - q) = q by omega, Int.sub_sub_self]
theorem cm_b {t : Bool} {cn rn : Nat} {l : List Cell} (hl : l.length = rn * cn) : grid cn rn (hvB t (cmC t cn) (cmR t rn) (cmX t cn rn l)) = l := by
  conv => rhs; rw [← grid_selfG zC hl]
  refine grid_ext fun k q hk hq => ?_
  cases t
  · have h1 : 2 * cn - 1 - k < cmC false cn := by simp only [cmC, Bool.false_eq_true, if_false]; omega
    have h2 : q < cmR false rn := hq
    have e1 : k < cn ∧ q < rn := ⟨hk, hq⟩
    have e2 : ¬ (2 * cn - 1 - k < cn) := by omega
    have e3 : cmC false cn - 1 - k = 2 * cn - 1 - k := rfl
    simp only [hvB, Bool.false_eq_true, if_false]
    rw [e3, cmX, grid_getD zC _ h2 h1, cmV, twCell_grid _ h1 h2]
    simp only [Bool.false_eq_true, if_false, cmP, e1, cmC, e2, and_self, false_and, if_true, show 2 * cn - 1 - (2 * cn - 1 - k) = k by omega, swp]
  · have h1 : k < cmC true cn := hk
    have h2 : 2 * rn - 1 - q < cmR true rn := by simp only [cmR, if_true]; omega
    have e1 : k < cn ∧ q < rn := ⟨hk, hq⟩
    have e2 : ¬ (2 * rn - 1 - q < rn) := by omega
    have e3 : cmR true rn - 1 - q = 2 * rn - 1 - q := rfl
    simp only [hvB, if_true]
    rw [e3, cmX, grid_getD zC _ h2 h1, cmV, twCell_grid _ h1 h2]
    simp only [if_true, cmP, e1, cmR, e2, and_self, and_false, if_false, show 2 * rn - 1 - (2 * rn - 1 - q) = q by omega, swd, Int.sub_sub_self]
theorem cm_halves {t : Bool} {cn rn : Nat} {l : List Cell} (hs : (schS cn rn l).2 = 0) (hl : l.length = rn * cn) (hc : cn ≤ 8) (hr : rn ≤ 8) (hk : sheetErr (cmC t cn : Nat) (cmR t rn : Nat) = 0) :
    halvesS t (cmC t cn : Nat) (cmR t rn : Nat) (cmX t cn rn l) = ((cn : Int), (rn : Int), l, l, 0) := by
  rw [halves_eq hk (by rw [cmX, grid_length]) (cm_ceOk hs hl hc hr) (cm_odd t cn rn), cm_hC, cm_hR, cm_a hl, cm_b hl]
theorem cm_len {t : Bool} {cn rn : Nat} {l : List Cell} (hc : cn ≤ 8) (hr : rn ≤ 8) : (cmV t cn rn l).length ≤ 1000 := by
  have : cmR t rn * cmC t cn ≤ 16 * 16 := Nat.mul_le_mul (by unfold cmR; split <;> omega) (by unfold cmC; split <;> omega)
  rw [cmV, grid_length]; omega
end Go.Proofs.Ytfpkpokkgbobmaa
