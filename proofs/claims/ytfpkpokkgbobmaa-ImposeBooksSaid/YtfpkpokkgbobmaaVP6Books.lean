/-
  Chapter 6, plain laws of books: signatures follow one another; what is bound has all pages, in order.
-/
import Derived.Test.YtfpkpokkgbobmaaVW40
namespace Go.Proofs.Ytfpkpokkgbobmaa
open Go Go.Vx
set_option linter.unusedSimpArgs false
theorem scanO_in {lo hi : Int} {st : Bool} : ∀ (l : List Int) (p : Option Int) (k : Nat), scanO lo hi st p k l = none → ∀ n ∈ l, lo ≤ n ∧ n ≤ hi
  | [], _, _, _, n, hn => by simp at hn
  | m :: l, p, k, h, n, hn => by
    unfold scanO at h
    by_cases h1 : lo ≤ m ∧ m ≤ hi
    · rw [if_neg (fun f => f h1)] at h
      by_cases h2 : badO st p m = true
      · rw [if_pos h2] at h; cases h
      · rw [if_neg h2] at h
        rcases List.mem_cons.1 hn with rfl | hn
        · exact h1
        · exact scanO_in l _ _ h n hn
    · rw [if_pos h1] at h; cases h
theorem scanO_err {lo hi : Int} {st : Bool} : ∀ (l : List Int) (p : Option Int) (k i : Nat) (e : Int), scanO lo hi st p k l = some (i, e) → e ≠ 0
  | [], _, _, _, _, h => by simp [scanO] at h
  | m :: l, p, k, i, e, h => by
    unfold scanO at h
    by_cases h1 : lo ≤ m ∧ m ≤ hi
    · rw [if_neg (fun f => f h1)] at h
      by_cases h2 : badO st p m = true
      · rw [if_pos h2] at h
        simp only [Option.some.injEq, Prod.mk.injEq] at h
        omega
      · rw [if_neg h2] at h
        exact scanO_err l _ _ _ _ h
    · rw [if_pos h1] at h
      simp only [Option.some.injEq, Prod.mk.injEq] at h
      omega
theorem book_all {b : Book} (h : (bookS b).2 = 0) : (∀ n ∈ b.plates, 0 ≤ n ∧ n ≤ b.pages) ∧ ∀ n ∈ b.cancels, 1 ≤ n ∧ n ≤ b.pages := by
  obtain ⟨a1, a2, a3, a4⟩ := book_ok h
  unfold bookS at h
  rw [if_neg (fun f => f ⟨a1, a2⟩), if_neg (fun f => f ⟨a3, a4⟩)] at h
  by_cases h1 : b.per.tmod 2 ≠ 0
  · rw [if_pos h1] at h; simp at h
  rw [if_neg h1] at h
  by_cases h2 : 40 < b.plates.length
  · rw [if_pos h2] at h; simp at h
  rw [if_neg h2] at h
  cases h3 : scanO 0 b.pages false none 0 b.plates with
  | some p => rw [h3] at h; exact absurd h (scanO_err _ _ _ p.1 p.2 h3)
  | none =>
    rw [h3] at h
    simp only [] at h
    by_cases h4 : 40 < b.cancels.length
    · rw [if_pos h4] at h; simp at h
    rw [if_neg h4] at h
    cases h5 : scanO 1 b.pages true none 0 b.cancels with
    | some p => rw [h5] at h; exact absurd h (scanO_err _ _ _ p.1 p.2 h5)
    | none => exact ⟨scanO_in _ _ _ h3, scanO_in _ _ _ h5⟩
/-- signatures: so many as the pages want. -/
theorem sigN_of {P Q : Nat} (hP : 0 < P) (hQ : 0 < Q) : P ≤ sigN P Q * Q ∧ sigN P Q * Q < P + Q ∧ ∀ k, k < sigN P Q → k * Q < P := by
  have h := (Nat.div_eq_iff hQ).1 (show (P + Q - 1) / Q = sigN P Q from rfl)
  have h1 : P ≤ sigN P Q * Q := by omega
  refine ⟨h1, by omega, fun k hk => ?_⟩
  have : (k + 1) * Q ≤ sigN P Q * Q := Nat.mul_le_mul_right _ hk
  rw [Nat.succ_mul] at this
  omega
theorem sigL_get {P Q N k : Nat} (h : k < (sigL P Q N).length) : (sigL P Q N)[k] = sigE P Q k := by simp [sigL]
/-- what is bound, read on: pages so far; each entry that is no plate is the next page, or a blank in its place. -/
def okX (ca : List Int) : Int → List Int → Prop
  | _, [] => True
  | pg, y :: l => if y = -1 then okX ca pg l else (y = pg + 1 ∨ y = 0 ∧ pg + 1 ∈ ca) ∧ okX ca (pg + 1) l
def pgs1 (l : List Int) : Int := ((l.filter fun y => decide (y ≠ -1)).length : Nat)
def pls1 (l : List Int) : Int := ((l.filter fun y => decide (y = -1)).length : Nat)
theorem pgs1_app (a b : List Int) : pgs1 (a ++ b) = pgs1 a + pgs1 b := by simp [pgs1]
theorem pls1_app (a b : List Int) : pls1 (a ++ b) = pls1 a + pls1 b := by simp [pls1]
theorem okX_app (ca : List Int) : ∀ (a b : List Int) (pg : Int), okX ca pg (a ++ b) ↔ okX ca pg a ∧ okX ca (pg + pgs1 a) b
  | [], b, pg => by simp [okX, pgs1]
  | y :: a, b, pg => by
    simp only [List.cons_append, okX]
    by_cases h : y = -1
    · rw [if_pos h, if_pos h, okX_app ca a b pg]
      simp [pgs1, h]
    · rw [if_neg h, if_neg h, okX_app ca a b (pg + 1)]
      have : pgs1 (y :: a) = 1 + pgs1 a := by simp [pgs1, h]; omega
      rw [this, ← Int.add_assoc, and_assoc]
theorem okX_rep (ca : List Int) (pg : Int) : ∀ n, okX ca pg (List.replicate n (-1)) ∧ pgs1 (List.replicate n (-1)) = 0 ∧ pls1 (List.replicate n (-1)) = n
  | 0 => by simp [okX, pgs1, pls1]
  | n + 1 => by
    obtain ⟨h1, h2, h3⟩ := okX_rep ca pg n
    refine ⟨by simp only [List.replicate_succ, okX, if_true]; exact h1, ?_, ?_⟩
    · rw [List.replicate_succ, show (-1 : Int) :: List.replicate n (-1) = [-1] ++ List.replicate n (-1) from rfl, pgs1_app, h2]; rfl
    · rw [List.replicate_succ, show (-1 : Int) :: List.replicate n (-1) = [-1] ++ List.replicate n (-1) from rfl, pls1_app, h3]
      show (1 : Int) + n = ((n + 1 : Nat) : Int)
      omega
theorem bnd_ok {pl ca : List Int} (h0 : ¬ (0 : Int) ∈ ca) : ∀ k, okX ca 0 (bndK pl ca (k + 1)) ∧ pgs1 (bndK pl ca (k + 1)) = k
  | 0 => by
    have hA : bndA ca 0 = [] := by unfold bndA; rw [if_neg (show ¬ ((0 : Nat) : Int) ∈ ca from h0), if_neg (by omega)]
    obtain ⟨h1, h2, -⟩ := okX_rep ca 0 (pl.count ((0 : Nat) : Int))
    have e : bndK pl ca (0 + 1) = List.replicate (pl.count ((0 : Nat) : Int)) (-1) := by rw [bndK_succ, bndK_zero, bndP, hA]; rfl
    rw [e]
    exact ⟨h1, h2⟩
  | k + 1 => by
    obtain ⟨h1, h2⟩ := bnd_ok (pl := pl) h0 k
    obtain ⟨r1, r2, -⟩ := okX_rep ca ((k : Int) + 1) (pl.count ((k + 1 : Nat) : Int))
    have hA : okX ca k (bndA ca (k + 1)) ∧ pgs1 (bndA ca (k + 1)) = 1 := by
      unfold bndA
      by_cases hin : ((k + 1 : Nat) : Int) ∈ ca
      · rw [if_pos hin]
        refine ⟨?_, rfl⟩
        simp only [okX]
        rw [if_neg (by omega)]
        refine ⟨.inr ⟨trivial, ?_⟩, trivial⟩
        push_cast at hin; exact hin
      · rw [if_neg hin, if_pos (by omega)]
        refine ⟨?_, ?_⟩
        · simp only [okX]
          rw [if_neg (by omega)]
          exact ⟨.inl (by push_cast; rfl), trivial⟩
        · have : ¬ ((k + 1 : Nat) : Int) = -1 := by omega
          unfold pgs1
          rw [List.filter_cons_of_pos (by simpa using this)]; rfl
    rw [bndK_succ, okX_app, pgs1_app, bndP, okX_app, pgs1_app, h2, r2, hA.2]
    refine ⟨⟨h1, ?_, ?_⟩, by push_cast; omega⟩
    · rw [Int.zero_add]; exact hA.1
    · rw [Int.zero_add]; exact r1
def ltc (pl : List Int) (k : Nat) : Nat := (pl.filter fun p : Int => decide (0 ≤ p ∧ p < (k : Int))).length
theorem ltc_succ (k : Nat) : ∀ pl : List Int, ltc pl (k + 1) = ltc pl k + pl.count (k : Int)
  | [] => rfl
  | p :: pl => by
    have ih := ltc_succ k pl
    unfold ltc at ih ⊢
    rw [List.count_cons]
    by_cases h1 : 0 ≤ p ∧ p < (k : Int)
    · rw [List.filter_cons_of_pos (by simp; omega), List.filter_cons_of_pos (by simp; omega), List.length_cons, List.length_cons, ih, if_neg (by simp; omega)]; omega
    · by_cases h2 : p = (k : Int)
      · rw [List.filter_cons_of_pos (by simp; omega), List.filter_cons_of_neg (by simp; omega), List.length_cons, ih, if_pos (by simp [h2])]; omega
      · rw [List.filter_cons_of_neg (by simp; omega), List.filter_cons_of_neg (by simp; omega), ih, if_neg (by simp [h2])]; omega
theorem bnd_plates (pl ca : List Int) : ∀ k, pls1 (bndK pl ca k) = (ltc pl k : Nat)
  | 0 => by
    have : (pl.filter fun p : Int => decide (0 ≤ p ∧ p < ((0 : Nat) : Int))) = [] := List.filter_eq_nil_iff.2 fun p _ => by simp
    rw [bndK_zero, ltc, this]; rfl
  | k + 1 => by
    obtain ⟨-, -, r3⟩ := okX_rep ca 0 (pl.count (k : Int))
    have hA : pls1 (bndA ca k) = 0 := by
      unfold bndA
      split
      · rfl
      · split
        · have : ¬ (k : Int) = -1 := by omega
          simp [pls1, this]
        · rfl
    rw [bndK_succ, pls1_app, bndP, pls1_app, bnd_plates pl ca k, hA, r3, ltc_succ]
    push_cast
    omega
theorem bnd_all {pl ca : List Int} {P : Nat} (h : ∀ n ∈ pl, 0 ≤ n ∧ n ≤ (P : Int)) : pls1 (bndK pl ca (P + 1)) = pl.length := by
  rw [bnd_plates, ltc]
  have : (pl.filter fun p : Int => decide (0 ≤ p ∧ p < ((P + 1 : Nat) : Int))) = pl := List.filter_eq_self.2 fun p hp => by have := h p hp; simp; omega
  rw [this]
end Go.Proofs.Ytfpkpokkgbobmaa
