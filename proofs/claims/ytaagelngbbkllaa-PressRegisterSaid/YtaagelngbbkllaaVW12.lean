/-
  Chapter 9, walks: an order of colours that is begun.
-/
import Derived.Test.YtaagelngbbkllaaVW10
namespace Go.Proofs.Ytaagelngbbkllaa
open Go Go.Vx
set_option linter.unusedSimpArgs false
set_option linter.unusedVariables false
set_option maxRecDepth 20000
/-- An order that is begun. -/
structure Beg where
  order : List Int
  ends : List Int
  barred : Bool
def gV (b1 b2 : Bool) (x : Beg) : SV := .agg [.sl b1 1 (x.order.map eI), .sl b2 1 (x.ends.map eI), .v (.bool x.barred)]
theorem gV_eq (b1 b2 : Bool) (x : Beg) : gV b1 b2 x = .agg [.sl b1 1 (x.order.map eI), .sl b2 1 (x.ends.map eI), .v (.bool x.barred)] := rfl
def endB (x : Beg) : Int := x.ends.getLastD 0
/-- Colours of a right kind. -/
structure ColOk (c : Cols) : Prop where
  n : c.minutes.length ≤ 6
  mi : ∀ m ∈ c.minutes, 0 ≤ m ∧ m ≤ 10000
  len : c.dry.length = c.minutes.length
  row : ∀ r ∈ c.dry, r.length = c.minutes.length
  dr : ∀ r ∈ c.dry, ∀ d ∈ r, -1 ≤ d ∧ d ≤ 10000
theorem rowsErr_zero {n : Nat} {bad : Int → Bool} : ∀ {l : List (List Int)}, rowsErr n bad l = 0 → ∀ r ∈ l, r.length = n ∧ r.any bad = false
  | [], _ => fun r h => absurd h (List.not_mem_nil)
  | r :: l, h => by
    simp only [rowsErr] at h
    split at h
    next h1 =>
      split at h
      next h2 => cases h
      next h2 =>
        intro q hq
        rcases List.mem_cons.1 hq with rfl | hq
        · exact ⟨h1, by simpa using h2⟩
        · exact rowsErr_zero h q hq
    next h1 => cases h
theorem colErr_ok {c : Cols} (h : colErr c = 0) : ColOk c := by
  unfold colErr at h
  split at h
  next => cases h
  next h1 =>
    split at h
    next => cases h
    next h2 =>
      split at h
      next h3 =>
        have hr := rowsErr_zero h
        refine ⟨by omega, fun m hm => ?_, h3, fun r hr' => (hr r hr').1, fun r hr' d hd => ?_⟩
        · have := List.any_eq_false.1 (by simpa using h2) m hm
          simpa [badM] using this
        · have := List.any_eq_false.1 (hr r hr').2 d hd
          simpa [badD] using this
      next => cases h
def dryE (c : Cols) (o i : Int) : Int := (c.dry.getD o.toNat []).getD i.toNat 0
def minE (c : Cols) (i : Int) : Int := c.minutes.getD i.toNat 0
def atK (c : Cols) (x : Beg) (i : Int) (k : Nat) : Int := ((x.order.zip x.ends).take k).foldl (fun a p => max a (p.2 + dryE c p.1 i)) (endB x)
def barK (c : Cols) (x : Beg) (i : Int) (k : Nat) : Bool := x.barred || (x.order.take k).any fun o => decide (dryE c o i < 0)
def withE (c : Cols) (x : Beg) (i : Int) : Beg := ⟨x.order ++ [i], x.ends ++ [atK c x i x.order.length + minE c i], barK c x i x.order.length⟩
/-- what is begun, of 'm' colours. -/
structure BegOk (c : Cols) (x : Beg) (m : Nat) : Prop where
  lo : x.order.length = m
  le : x.ends.length = m
  o : ∀ o ∈ x.order, 0 ≤ o ∧ o < (c.minutes.length : Int)
  e : ∀ e ∈ x.ends, 0 ≤ e ∧ e ≤ 20000 * (m : Int)
theorem endB_b {c : Cols} {x : Beg} {m : Nat} (h : BegOk c x m) : 0 ≤ endB x ∧ endB x ≤ 20000 * (m : Int) := by
  unfold endB
  rcases hx : x.ends.getLast? with _ | e
  · rw [List.getLastD_eq_getLast?, hx]; simp; omega
  · rw [List.getLastD_eq_getLast?, hx]
    exact h.e e (List.mem_of_getLast? hx)
theorem dryE_b {c : Cols} (hc : ColOk c) (o i : Int) : -1 ≤ dryE c o i ∧ dryE c o i ≤ 10000 := by
  unfold dryE
  simp only [List.getD_eq_getElem?_getD]
  rcases h : c.dry[o.toNat]? with _ | r
  · simp
  · simp only [Option.getD_some]
    rcases h2 : r[i.toNat]? with _ | d
    · simp
    · exact hc.dr r (List.mem_of_getElem? h) d (List.mem_of_getElem? h2)
theorem minE_b {c : Cols} (hc : ColOk c) (i : Int) : 0 ≤ minE c i ∧ minE c i ≤ 10000 := by
  unfold minE
  simp only [List.getD_eq_getElem?_getD]
  rcases h : c.minutes[i.toNat]? with _ | m
  · simp
  · exact hc.mi m (List.mem_of_getElem? h)
theorem atK_succ {c : Cols} {x : Beg} {i : Int} {k : Nat} (h1 : k < x.order.length) (h2 : k < x.ends.length) : atK c x i (k + 1) = max (atK c x i k) (x.ends[k] + dryE c x.order[k] i) := by
  have hz : k < (x.order.zip x.ends).length := by simp; omega
  unfold atK
  rw [List.take_succ_eq_append_getElem hz, List.foldl_append]
  simp
theorem barK_succ {c : Cols} {x : Beg} {i : Int} {k : Nat} (h1 : k < x.order.length) : barK c x i (k + 1) = (barK c x i k || decide (dryE c x.order[k] i < 0)) := by
  unfold barK
  rw [List.take_succ_eq_append_getElem h1, List.any_append, Bool.or_assoc]
  simp
theorem atK_b {c : Cols} (hc : ColOk c) {x : Beg} {m : Nat} (h : BegOk c x m) (i : Int) : ∀ k, k ≤ m → 0 ≤ atK c x i k ∧ atK c x i k ≤ 20000 * (m : Int) + 10000
  | 0, _ => by
    have := endB_b h
    simp only [atK, List.take_zero, List.foldl_nil]; omega
  | k + 1, hk => by
    have h1 : k < x.order.length := by have := h.lo; omega
    have h2 : k < x.ends.length := by have := h.le; omega
    have ih := atK_b hc h i k (by omega)
    rw [atK_succ h1 h2]
    have hd := dryE_b hc x.order[k] i
    have he := h.e _ (List.getElem_mem h2)
    omega
theorem with_ok {c : Cols} (hc : ColOk c) {x : Beg} {m : Nat} (h : BegOk c x m) {i : Int} (hi : 0 ≤ i ∧ i < (c.minutes.length : Int)) : BegOk c (withE c x i) (m + 1) := by
  have ha := atK_b hc h i m (Nat.le_refl _)
  have hm := minE_b hc i
  refine ⟨by simp [withE, h.lo], by simp [withE, h.le], fun o ho => ?_, fun e he => ?_⟩
  · rcases List.mem_append.1 ho with ho | ho
    · exact h.o o ho
    · rw [List.mem_singleton] at ho; subst ho; exact hi
  · rcases List.mem_append.1 he with he | he
    · have := h.e e he; omega
    · rw [List.mem_singleton, h.lo] at he; omega
theorem end_s (b1 b2 : Bool) (x : Beg) (hl : x.ends.length ≤ 1000000000) : Ctr Try.prog 101 [gV b1 b2 x] (fun rr => rr = ⟨(.v (.int .i64 (endB x))), []⟩) := by
  have encs := And.intro encs gV_eq
  refine Ctr.of (rs := [.tmp 2]) Tok true Try.func101 rfl rfl rfl rfl (by simp [ofDL]) (fun w0 kp => ?_)
  simp only [↓sxD, ↓sxP0, ↓sxP3, ↓sxGd, sxP1, sxF, sxA, sxS, sxK, sxG, sxZ, sxH, sxU, encs, tys, sxN, sevalprocAttr, ne_eq, decide_true, decide_false]
  refine BrW.dec (fun h => ?_) (fun h => ?_)
  · simp only [↓sxD, ↓sxP0, ↓sxP3, ↓sxGd, sxP1, sxF, sxA, sxS, sxK, sxG, sxZ, sxH, sxU, encs, tys, sxN, sevalprocAttr, ne_eq, decide_true, decide_false]
    have : x.ends = [] := List.eq_nil_of_length_eq_zero (by omega)
    have : endB x = 0 := by simp [endB, this]
    exact EndW.fn (by simp only [sxL, sxG, sxH, sxU, encs, kpLL_map, sxN, sevalprocAttr, ne_eq, decide_true, decide_false] <;> (try simp [this]) <;> (try omega)) (by simp only [sxL, sxG, sxH, sxU, encs, kpLL_map, sxN, sevalprocAttr, ne_eq, decide_true, decide_false] <;> (try simp) <;> (try omega))
  · simp only [↓sxD, ↓sxP0, ↓sxP3, ↓sxGd, sxP1, sxF, sxA, sxS, sxK, sxG, sxZ, sxH, sxU, encs, tys, sxN, sevalprocAttr, ne_eq, decide_true, decide_false]
    have hp : 0 < x.ends.length := by omega
    repeat ((with_reducible refine Vc.go ?_ fun _ => ?_); (focus (first | omega | (simp only [InK]; omega) | (simp [InK]; done) | (simp [InK]; omega))); simp only [↓sxD, ↓sxP0, ↓sxP3, ↓sxGd, sxP1, sxF, sxA, sxS, sxK, sxG, sxZ, sxH, sxU, encs, tys, sxN, sevalprocAttr, ne_eq, decide_true, decide_false])
    have : endB x = x.ends[x.ends.length - 1]'(by omega) := by
      unfold endB
      rw [List.getLastD_eq_getLast?, List.getLast?_eq_getElem?, List.getElem?_eq_getElem (by omega)]; rfl
    have hx : x.ends[((x.ends.length : Int) - 1).toNat]? = some (endB x) := by
      rw [this, List.getElem?_eq_some_iff]
      have : ((x.ends.length : Int) - 1).toNat = x.ends.length - 1 := by omega
      exact ⟨by omega, by simp only [this]⟩
    refine IxW.map (endB x) (by omega) hx ?_
    simp only [↓sxD, ↓sxP0, ↓sxP3, ↓sxGd, sxP1, sxF, sxA, sxS, sxK, sxG, sxZ, sxH, sxU, encs, tys, sxN, sevalprocAttr, ne_eq, decide_true, decide_false]
    exact EndW.fn (by simp only [sxL, sxG, sxH, sxU, encs, kpLL_map, sxN, sevalprocAttr, ne_eq, decide_true, decide_false] <;> (try simp) <;> (try omega)) (by simp only [sxL, sxG, sxH, sxU, encs, kpLL_map, sxN, sevalprocAttr, ne_eq, decide_true, decide_false] <;> (try simp) <;> (try omega))
end Go.Proofs.Ytaagelngbbkllaa
