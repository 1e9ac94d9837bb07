/-
  Chapter 9, plain: the schedule by dues.
-/
import Derived.Test.YtfojggadhhaleaaGreatDoorVGD
namespace Go.Proofs.YtfojggadhhaleaaGreatDoor
open Go Go.Vx
set_option linter.unusedSimpArgs false
set_option linter.unusedVariables false
def jb (l : List Job) (k : Nat) : Job := l.getD k ⟨⟨#[]⟩, 0, 0, 0⟩
theorem jb_eq {l : List Job} {k : Nat} (h : k < l.length) : jb l k = l[k] := by
  simp [jb, List.getD_eq_getElem?_getD, List.getElem?_eq_getElem h]
theorem gd_eq {l : List Int} {k : Nat} (h : k < l.length) : l.getD k 0 = l[k] := by
  simp [List.getD_eq_getElem?_getD, List.getElem?_eq_getElem h]
structure DS where
  left : List Int
  out : List Slot
  now : Int
/-- the job that is best now (or -1), and when the next one is ready (or -1). -/
def scan (l : List Job) (left : List Int) (now : Int) : Nat → Int × Int
  | 0 => (-1, -1)
  | k + 1 => if left.getD k 0 = 0 then scan l left now k
    else if now < (jb l k).ready then ((scan l left now k).1, if (scan l left now k).2 < 0 ∨ (jb l k).ready < (scan l left now k).2 then (jb l k).ready else (scan l left now k).2)
    else (if (scan l left now k).1 < 0 ∨ (jb l k).due < (jb l (scan l left now k).1.toNat).due then (k : Int) else (scan l left now k).1, (scan l left now k).2)
def scn (l : List Job) (s : DS) : Int × Int := scan l s.left s.now l.length
def longS (l : List Job) (s : DS) : Int := if 0 ≤ (scn l s).2 then min (s.left.getD (scn l s).1.toNat 0) ((scn l s).2 - s.now) else s.left.getD (scn l s).1.toNat 0
def lastS (out : List Slot) : Slot := out.getD (out.length - 1) ⟨-1, 0, 0⟩
def putS (out : List Slot) (b now long : Int) : List Slot :=
  if out ≠ [] ∧ (lastS out).job = b ∧ (lastS out).start + (lastS out).minutes = now then out.set (out.length - 1) ⟨(lastS out).job, (lastS out).start, (lastS out).minutes + long⟩ else out ++ [⟨b, now, long⟩]
def stp (l : List Job) (s : DS) : Option DS :=
  if (scn l s).1 < 0 then (if (scn l s).2 < 0 then none else some ⟨s.left, s.out, (scn l s).2⟩)
  else some ⟨s.left.set (scn l s).1.toNat (s.left.getD (scn l s).1.toNat 0 - longS l s), putS s.out (scn l s).1 s.now (longS l s), s.now + longS l s⟩
def duesF (l : List Job) : Nat → DS → List Slot
  | 0, s => s.out
  | f + 1, s => match stp l s with
    | none => s.out
    | some s' => duesF l f s'
def meas (l : List Job) (s : DS) : Nat := 2 * s.left.sum.toNat + if (scn l s).1 < 0 then 1 else 0
def ds0 (l : List Job) : DS := ⟨l.map (·.minutes), [], 0⟩
def dues (l : List Job) : List Slot := duesF l (meas l (ds0 l)) (ds0 l)
def TOk (n : Nat) (now : Int) (t : Slot) : Prop := (0 ≤ t.job ∧ t.job < (n : Int)) ∧ 0 ≤ t.start ∧ 0 ≤ t.minutes ∧ t.start + t.minutes ≤ now
structure DOk (l : List Job) (s : DS) : Prop where
  ll : s.left.length = l.length
  lb : ∀ x ∈ s.left, 0 ≤ x ∧ x ≤ 10000
  nb : 0 ≤ s.now
  ns : s.now + s.left.sum ≤ 10200000
  os : (s.out.length : Int) + s.left.sum ≤ 200000
  ot : ∀ t ∈ s.out, TOk l.length s.now t
theorem scan_best {l : List Job} {left : List Int} {now : Int} : ∀ k, (scan l left now k).1 = -1 ∨ (0 ≤ (scan l left now k).1 ∧ (scan l left now k).1 < (k : Int) ∧ left.getD (scan l left now k).1.toNat 0 ≠ 0)
  | 0 => .inl rfl
  | k + 1 => by
    have ih := scan_best (l := l) (left := left) (now := now) k
    simp only [scan]
    split
    · rcases ih with h | h
      · exact .inl h
      · exact .inr ⟨h.1, by omega, h.2.2⟩
    · rename_i h0
      split
      · rcases ih with h | h
        · exact .inl h
        · exact .inr ⟨h.1, by simp only; omega, h.2.2⟩
      · split
        · exact .inr ⟨by simp only; omega, by simp only; omega, by simpa using h0⟩
        · rcases ih with h | h
          · exact .inl h
          · exact .inr ⟨h.1, by simp only; omega, h.2.2⟩
theorem scan_next {l : List Job} {left : List Int} {now : Int} : ∀ k, (scan l left now k).2 = -1 ∨ ∃ i, i < k ∧ left.getD i 0 ≠ 0 ∧ now < (jb l i).ready ∧ (scan l left now k).2 = (jb l i).ready
  | 0 => .inl rfl
  | k + 1 => by
    have ih : (scan l left now k).2 = -1 ∨ ∃ i, i < k + 1 ∧ left.getD i 0 ≠ 0 ∧ now < (jb l i).ready ∧ (scan l left now k).2 = (jb l i).ready := by
      rcases scan_next (l := l) (left := left) (now := now) k with h | ⟨i, h1, h2⟩
      · exact .inl h
      · exact .inr ⟨i, by omega, h2⟩
    simp only [scan]
    split
    · exact ih
    · rename_i h0
      split
      · rename_i h1
        split
        · exact .inr ⟨k, by omega, h0, h1, rfl⟩
        · exact ih
      · exact ih
theorem scan_has {l : List Job} {left : List Int} {now : Int} {i : Nat} (h0 : left.getD i 0 ≠ 0) (h1 : (jb l i).ready ≤ now) : ∀ k, i < k → 0 ≤ (scan l left now k).1
  | k + 1, hk => by
    have hb := scan_best (l := l) (left := left) (now := now) k
    by_cases e : i = k
    · subst e
      simp only [scan]
      rw [if_neg h0, if_neg (by omega)]
      simp only
      split <;> omega
    · have ih := scan_has h0 h1 k (by omega)
      simp only [scan]
      split
      · exact ih
      · split
        · exact ih
        · simp only
          split <;> omega
theorem sum_set : ∀ {l : List Int} {i : Nat} (h : i < l.length) (v : Int), (l.set i v).sum = l.sum - l[i] + v
  | a :: l, 0, _, v => by simp; omega
  | a :: l, i + 1, h, v => by
    have := sum_set (l := l) (i := i) (by simpa using h) v
    simp [this]; omega
theorem sum_nn : ∀ {l : List Int}, (∀ x ∈ l, 0 ≤ x) → 0 ≤ l.sum
  | [], _ => by simp
  | a :: l, h => by
    have := sum_nn (l := l) fun x hx => h x (List.mem_cons_of_mem _ hx)
    have := h a (List.mem_cons_self ..)
    simp; omega
theorem sum_get : ∀ {l : List Int} (_ : ∀ x ∈ l, 0 ≤ x) {i : Nat} (h : i < l.length), l[i] ≤ l.sum
  | a :: l, hl, 0, _ => by
    have := sum_nn (l := l) fun x hx => hl x (List.mem_cons_of_mem _ hx)
    simp; omega
  | a :: l, hl, i + 1, h => by
    have := sum_get (l := l) (fun x hx => hl x (List.mem_cons_of_mem _ hx)) (i := i) (by simpa using h)
    have := hl a (List.mem_cons_self ..)
    simp; omega
/-- what the best job gets. -/
theorem long_b {l : List Job} {s : DS} (h : DOk l s) (hb : ¬ (scn l s).1 < 0) : 0 ≤ (scn l s).1 ∧ (scn l s).1 < (l.length : Int) ∧ 1 ≤ longS l s ∧ longS l s ≤ s.left.getD (scn l s).1.toNat 0 ∧ ((scn l s).2 = -1 ∨ (s.now < (scn l s).2)) := by
  have h1 := scan_best (l := l) (left := s.left) (now := s.now) l.length
  have h2 := scan_next (l := l) (left := s.left) (now := s.now) l.length
  have e : scan l s.left s.now l.length = scn l s := rfl
  rw [e] at h1 h2
  rcases h1 with h1 | ⟨h1, h3, h4⟩
  · omega
  · have hlt : (scn l s).1.toNat < s.left.length := by have := h.ll; omega
    have h5 := h.lb _ (List.getElem_mem hlt)
    rw [gd_eq hlt] at h4
    have hn : (scn l s).2 = -1 ∨ s.now < (scn l s).2 := by
      rcases h2 with h2 | ⟨i, _, _, h6, h7⟩
      · exact .inl h2
      · rw [h7]; exact .inr h6
    refine ⟨h1, h3, ?_, ?_, hn⟩
    · unfold longS
      rw [gd_eq hlt]
      split <;> omega
    · unfold longS
      rw [gd_eq hlt]
      split <;> omega
theorem putS_ok {n : Nat} {out : List Slot} {b now long : Int} (ho : ∀ t ∈ out, TOk n now t) (hb : 0 ≤ b ∧ b < (n : Int)) (hn : 0 ≤ now) (hl : 1 ≤ long) : (∀ t ∈ putS out b now long, TOk n (now + long) t) ∧ (putS out b now long).length ≤ out.length + 1 := by
  have mono : ∀ t, TOk n now t → TOk n (now + long) t := fun t ⟨a, b, c, d⟩ => ⟨a, b, c, by omega⟩
  unfold putS
  split
  · rename_i h
    have hne : out.length - 1 < out.length := by
      have := List.length_pos_iff.2 h.1
      omega
    have e : lastS out = out[out.length - 1] := by simp [lastS, List.getD_eq_getElem?_getD, List.getElem?_eq_getElem hne]
    have ht := ho _ (List.getElem_mem hne)
    rw [← e] at ht
    obtain ⟨a1, a2, a3, a4⟩ := ht
    refine ⟨fun t ht => ?_, by simp⟩
    rcases List.mem_or_eq_of_mem_set ht with ht | rfl
    · exact mono t (ho t ht)
    · exact ⟨a1, a2, by simp only; omega, by simp only; omega⟩
  · refine ⟨fun t ht => ?_, by simp⟩
    rcases List.mem_append.1 ht with ht | ht
    · exact mono t (ho t ht)
    · rw [List.mem_singleton] at ht; subst ht
      exact ⟨hb, hn, by simp only; omega, by simp only; omega⟩
theorem stp_ok {l : List Job} (hj : JobsOk l) {s s' : DS} (h : DOk l s) (hs : stp l s = some s') : DOk l s' ∧ meas l s' < meas l s := by
  have hnn := sum_nn fun x hx => (h.lb x hx).1
  unfold stp at hs
  split at hs
  · rename_i hb
    split at hs
    · cases hs
    · rename_i hx
      cases hs
      have h2 := scan_next (l := l) (left := s.left) (now := s.now) l.length
      have e : scan l s.left s.now l.length = scn l s := rfl
      rw [e] at h2
      rcases h2 with h2 | ⟨i, h3, h4, h5, h6⟩
      · omega
      · have hr := hj.ready _ (List.getElem_mem h3)
        rw [jb_eq h3] at h6
        have hsum : s.left.sum ≤ 200000 := by have := h.os; omega
        refine ⟨⟨h.ll, h.lb, by simp only; omega, by simp only; omega, h.os, fun t ht => ?_⟩, ?_⟩
        · obtain ⟨a, b, c, d⟩ := h.ot t ht
          rw [jb_eq h3] at h5
          exact ⟨a, b, c, by simp only; omega⟩
        · have hq : 0 ≤ (scn l ⟨s.left, s.out, (scn l s).2⟩).1 := scan_has (l := l) (left := s.left) (now := (scn l s).2) h4 (by rw [jb_eq h3, h6]; exact Int.le_refl _) l.length h3
          unfold meas
          rw [if_pos hb, if_neg (by omega)]
          simp only; omega
  · rename_i hb
    cases hs
    obtain ⟨b0, b1, b2, b3, b4⟩ := long_b h hb
    have hlt : (scn l s).1.toNat < s.left.length := by have := h.ll; omega
    rw [gd_eq hlt] at b3 ⊢
    have hp := putS_ok (b := (scn l s).1) (long := longS l s) h.ot ⟨b0, b1⟩ h.nb b2
    have hsum := sum_set hlt (s.left[(scn l s).1.toNat] - longS l s)
    have hlb := h.lb _ (List.getElem_mem hlt)
    have hlb' : ∀ x ∈ s.left.set (scn l s).1.toNat (s.left[(scn l s).1.toNat] - longS l s), 0 ≤ x ∧ x ≤ 10000 := fun x hx => by
      rcases List.mem_or_eq_of_mem_set hx with hx | rfl
      · exact h.lb x hx
      · omega
    have hnn' := sum_nn fun x hx => (hlb' x hx).1
    have h1 := h.nb
    have h2 := h.ns
    have h3 := h.os
    refine ⟨⟨by simp [h.ll], hlb', by simp only; omega, ?_, ?_, hp.1⟩, ?_⟩
    · simp only; rw [hsum]; omega
    · simp only; rw [hsum]; have := hp.2; omega
    · unfold meas
      rw [if_neg hb]
      simp only
      split <;> omega
theorem ds0_ok {l : List Job} (hj : JobsOk l) : DOk l (ds0 l) := by
  have hb : ∀ x ∈ (ds0 l).left, 0 ≤ x ∧ x ≤ 10000 := fun x hx => by
    obtain ⟨j, hj', rfl⟩ := List.mem_map.1 hx
    have := hj.minutes j hj'; omega
  have hs : ∀ {m : List Int}, (∀ x ∈ m, 0 ≤ x ∧ x ≤ 10000) → m.sum ≤ 10000 * (m.length : Int) := by
    intro m
    induction m with
    | nil => simp
    | cons a m ih =>
      intro h
      have h1 := ih fun x hx => h x (List.mem_cons_of_mem _ hx)
      have h2 := h a (List.mem_cons_self ..)
      simp; omega
  have h1 := hs hb
  have h2 : (ds0 l).left.length = l.length := by simp [ds0]
  have h3 := hj.n
  rw [h2] at h1
  have h4 : (ds0 l).now = 0 := rfl
  have h5 : (ds0 l).out = [] := rfl
  refine ⟨h2, hb, by rw [h4]; exact Int.le_refl _, by rw [h4]; omega, by rw [h5]; simp; omega, fun t ht => ?_⟩
  rw [h5] at ht; cases ht
theorem duesF_end {l : List Job} {s : DS} (h : stp l s = none) (f : Nat) : duesF l f s = s.out := by
  cases f with
  | zero => rfl
  | succ f => simp only [duesF, h]
theorem duesF_step {l : List Job} {s s' : DS} {f : Nat} (h : stp l s = some s') (hm : meas l s' < meas l s) (hf : meas l s ≤ f) : ∃ f', meas l s' ≤ f' ∧ duesF l f' s' = duesF l f s := by
  obtain ⟨f, rfl⟩ : ∃ g, f = g + 1 := ⟨f - 1, by omega⟩
  exact ⟨f, by omega, by simp only [duesF, h]⟩
end Go.Proofs.YtfojggadhhaleaaGreatDoor
