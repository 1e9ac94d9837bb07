/-
  A quicker check of plans, by a table of what each operation looks at.
-/
import Derived.Test.YtenohgpackcjbaaVSx
namespace Go.Vx
open Go Go.RowKit
set_option linter.unusedSimpArgs false
/-- what an operation writes, what it looks at (or more), what it comes behind. -/
structure Pr where
  d : Option Nat
  lk : List Nat
  es : List Nat
def prOk1 (ops : Array Oper) (o : Oper) (x : Pr) : Bool :=
  (o.dst == x.d) && ((o.looksAt ops).all fun t => x.lk.contains t) && (((o.after.toList.filter fun e => Region.binds .any e).map fun e => e.on) == x.es)
def prOkL (ops : Array Oper) : List Oper → List Pr → Bool
  | [], [] => true
  | o :: os, x :: xs => prOk1 ops o x && prOkL ops os xs
  | _, _ => false
def apG (x y : Pr) : Bool :=
  (match x.d with
   | some d => !y.lk.contains d && y.d != some d
   | none => true) &&
  (match y.d with
   | some d => !x.lk.contains d
   | none => true)
def freeG (x : Pr) (i : Nat) : Nat → List Pr → List Bool → Bool
  | _, [], _ => true
  | j, y :: ys, l :: ls => (j == i || l || y.es.contains i || apG x y) && freeG x i (j + 1) ys ls
  | _, _ :: _, [] => false
def stepG (pre : List Pr) (ls : List Bool) (i : Nat) : Bool :=
  match pre[i]? with
  | some x => (x.es.all fun e => ls.getD e false) && !ls.getD i true && freeG x i 0 pre ls
  | none => false
def keepG (ops : Array Oper) (listed : Array Bool) (i : Nat) (keep : List Nat) : Bool :=
  (List.range ops.size).all fun k => keep.contains k || !listed.getD k false || !opIs isL ops[k]? || befB ops ops.size k i
theorem keepG_spec {ops : Array Oper} {listed : Array Bool} {i : Nat} {keep : List Nat} (h : keepG ops listed i keep = true) : keepOk ops listed i keep = true := by
  simp only [keepG, keepOk, List.all_eq_true, Bool.or_eq_true] at h ⊢
  intro k hk
  rcases h k hk with ((h1 | h1) | h1) | h1
  · exact .inr h1
  · exact .inl (.inl (.inl h1))
  · exact .inl (.inl (.inr h1))
  · exact .inl (.inr h1)
def planG (ops : Array Oper) (pre : List Pr) : Nat → List Bool → Plan → Bool
  | _, ls, .done => (Region.ready .any ops ls.toArray).isEmpty
  | n + 1, ls, .q i p => stepG pre ls i && opIs isQ ops[i]? && planG ops pre n (ls.set i true) p
  | n + 1, ls, .e i keep p => (Region.ready .any ops ls.toArray == [i]) && keepG ops ls.toArray i keep && planG ops pre n (ls.set i true) p
  | _, _, _ => false
theorem prOkL_get {ops : Array Oper} : ∀ {os : List Oper} {xs : List Pr}, prOkL ops os xs = true → os.length = xs.length ∧ ∀ (i : Nat) (o : Oper), os[i]? = some o → ∃ x, xs[i]? = some x ∧ prOk1 ops o x = true
  | [], [], _ => ⟨rfl, fun i o h => by simp at h⟩
  | o :: os, x :: xs, h => by
    simp only [prOkL, Bool.and_eq_true] at h
    obtain ⟨h1, h2⟩ := prOkL_get h.2
    refine ⟨by simp [h1], fun i o' hi => ?_⟩
    cases i with
    | zero => simp at hi; subst hi; exact ⟨x, rfl, h.1⟩
    | succ i => simpa using h2 i o' (by simpa using hi)
  | [], _ :: _, h => by simp [prOkL] at h
  | _ :: _, [], h => by simp [prOkL] at h
theorem freeG_get {x : Pr} {i : Nat} : ∀ {ys : List Pr} {ls : List Bool} {j0 : Nat}, freeG x i j0 ys ls = true → ∀ (j : Nat) (y : Pr), ys[j]? = some y → j0 + j = i ∨ ls.getD j true = true ∨ y.es.contains i = true ∨ apG x y = true
  | [], _, _, _, j, y, h => by simp at h
  | y :: ys, l :: ls, j0, h, j, y', hj => by
    simp only [freeG, Bool.and_eq_true, Bool.or_eq_true, beq_iff_eq] at h
    cases j with
    | zero =>
      simp at hj; subst hj
      rcases h.1 with ((h1 | h1) | h1) | h1
      · exact .inl (by omega)
      · exact .inr (.inl (by simp [h1]))
      · exact .inr (.inr (.inl h1))
      · exact .inr (.inr (.inr h1))
    | succ j =>
      have := freeG_get h.2 j y' (by simpa using hj)
      rcases this with h1 | h1
      · exact .inl (by omega)
      · exact .inr (by simpa using h1)
  | _ :: _, [], _, h, _, _, _ => by simp [freeG] at h
theorem apG_spec {ops : Array Oper} {o o' : Oper} {x y : Pr} (hx : prOk1 ops o x = true) (hy : prOk1 ops o' y = true) (h : apG x y = true) : o.apart ops o' = true := by
  simp only [prOk1, Bool.and_eq_true, beq_iff_eq, List.all_eq_true] at hx hy
  obtain ⟨⟨x1, x2⟩, -⟩ := hx
  obtain ⟨⟨y1, y2⟩, -⟩ := hy
  unfold apG at h
  unfold Oper.apart
  rw [x1, y1]
  rw [Bool.and_eq_true] at h ⊢
  refine ⟨?_, ?_⟩
  · have h1 := h.1
    cases hd : x.d with
    | none => rfl
    | some d =>
      rw [hd] at h1
      simp only [Bool.and_eq_true, Bool.not_eq_true'] at h1 ⊢
      refine ⟨?_, h1.2⟩
      cases hc : (o'.looksAt ops).contains d with
      | false => rfl
      | true =>
        have := y2 d (List.contains_iff_mem.1 hc)
        rw [h1.1] at this; cases this
  · have h2 := h.2
    cases hd : y.d with
    | none => rfl
    | some d =>
      rw [hd] at h2
      simp only [Bool.not_eq_true'] at h2 ⊢
      cases hc : (o.looksAt ops).contains d with
      | false => rfl
      | true =>
        have := x2 d (List.contains_iff_mem.1 hc)
        rw [h2] at this; cases this
theorem stepG_spec {ops : Array Oper} {pre : List Pr} {ls : List Bool} {i : Nat} (hp : prOkL ops ops.toList pre = true) (h : stepG pre ls i = true) :
    (Region.ready .any ops ls.toArray).contains i = true ∧ Region.free .any ops ls.toArray i = true := by
  obtain ⟨hlen, hget⟩ := prOkL_get hp
  unfold stepG at h
  split at h
  · rename_i x hx
    have hi : i < ops.size := by
      have := (List.getElem?_eq_some_iff.1 hx).1
      simpa [← hlen] using this
    obtain ⟨o, ho⟩ : ∃ o, ops[i]? = some o := ⟨_, Array.getElem?_eq_getElem hi⟩
    obtain ⟨x', hx', hpx⟩ := hget i o (by simpa using ho)
    rw [hx] at hx'; cases hx'
    simp only [Bool.and_eq_true, List.all_eq_true] at h
    obtain ⟨⟨h1, h2⟩, h3⟩ := h
    have hp1 := hpx
    simp only [prOk1, Bool.and_eq_true, beq_iff_eq] at hp1
    have hes := hp1.2
    constructor
    · rw [List.contains_iff_mem, Region.ready, List.mem_filter, List.mem_range]
      refine ⟨hi, ?_⟩
      simp only [ho, Option.map_some, Option.getD_some, Bool.and_eq_true]
      refine ⟨by simpa using h2, ?_⟩
      rw [Array.all_eq_true_iff_forall_mem]
      intro e he
      cases hb : Region.binds .any e with
      | false => rfl
      | true =>
        have : e.on ∈ x.es := by
          rw [← hes, List.mem_map]
          exact ⟨e, List.mem_filter.2 ⟨by simpa using he, hb⟩, rfl⟩
        simpa using h1 _ this
    · rw [Region.free, ho]
      simp only [List.all_eq_true, List.mem_range]
      intro j hj
      obtain ⟨oj, hoj⟩ : ∃ oj, ops[j]? = some oj := ⟨_, Array.getElem?_eq_getElem hj⟩
      obtain ⟨y, hy, hpy⟩ := hget j oj (by simpa using hoj)
      rw [hoj]
      have := freeG_get h3 j y hy
      simp only [Bool.or_eq_true, beq_iff_eq]
      rcases this with h4 | h4 | h4 | h4
      · exact .inl (.inl (by omega))
      · exact .inl (.inr (by simpa using h4))
      · refine .inr (.inl ?_)
        have hpy2 := hpy
        simp only [prOk1, Bool.and_eq_true, beq_iff_eq] at hpy2
        have hm := List.contains_iff_mem.1 h4
        rw [← hpy2.2, List.mem_map] at hm
        obtain ⟨e, he, heq⟩ := hm
        have he := List.mem_filter.1 he
        rw [Array.any_eq_true']
        exact ⟨e, by simpa using he.1, by simp [he.2, heq]⟩
      · exact .inr (.inr (apG_spec hpx hpy h4))
  · cases h
theorem planG_spec {ops : Array Oper} {pre : List Pr} (hp : prOkL ops ops.toList pre = true) : ∀ (n : Nat) (p : Plan) (ls : List Bool), planG ops pre n ls p = true → planOk ops n ls.toArray p = true
  | 0, .done, ls, h => by simpa [planG, planOk] using h
  | n + 1, .done, ls, h => by simpa [planG, planOk] using h
  | n + 1, .q i p, ls, h => by
    simp only [planG, Bool.and_eq_true] at h
    simp only [planOk, Bool.and_eq_true]
    have hs := stepG_spec hp h.1.1
    refine ⟨⟨⟨hs.1, h.1.2⟩, hs.2⟩, ?_⟩
    have := planG_spec hp n p _ h.2
    simpa using this
  | n + 1, .e i keep p, ls, h => by
    simp only [planG, Bool.and_eq_true] at h
    simp only [planOk, Bool.and_eq_true]
    refine ⟨⟨h.1.1, keepG_spec h.1.2⟩, ?_⟩
    have := planG_spec hp n p _ h.2
    simpa using this
  | 0, .q _ _, ls, h => by simp [planG] at h
  | 0, .e _ _ _, ls, h => by simp [planG] at h
  | 0, .e2 _ _ _ _ _ _, ls, h => by simp [planG] at h
  | n + 1, .e2 _ _ _ _ _ _, ls, h => by simp [planG] at h
  | 0, .e3 _ _ _ _ _ _ _ _ _, ls, h => by simp [planG] at h
  | n + 1, .e3 _ _ _ _ _ _ _ _ _, ls, h => by simp [planG] at h
theorem planG_ok {ops : List Oper} {pre : List Pr} {n : Nat} {p : Plan} (hp : prOkL ops.toArray ops pre = true) (hn : ops.length = n) (h : planG ops.toArray pre n (List.replicate n false) p = true) :
    planOk ops.toArray ops.toArray.size (Array.replicate ops.toArray.size false) p = true := by
  have := planG_spec (ops := ops.toArray) hp n p _ h
  subst hn
  simpa using this
end Go.Vx
