/-
  Chapter 9, plain: right schedules, bounds of sets, and the schedule by dues is of least lateness.
-/
import Derived.Test.YtaagelngbbkllaaVW21
namespace Go.Proofs.Ytaagelngbbkllaa
open Go Go.Vx
set_option linter.unusedSimpArgs false
set_option linter.unusedVariables false
/-! ### sums -/
def sumN (f : Nat → Int) : Nat → Int
  | 0 => 0
  | k + 1 => sumN f k + f k
theorem sumN_congr {f g : Nat → Int} : ∀ n, (∀ i, i < n → f i = g i) → sumN f n = sumN g n
  | 0, _ => rfl
  | n + 1, h => by rw [sumN, sumN, sumN_congr n fun i hi => h i (by omega), h n (by omega)]
theorem sumN_le {f g : Nat → Int} : ∀ n, (∀ i, i < n → f i ≤ g i) → sumN f n ≤ sumN g n
  | 0, _ => Int.le_refl _
  | n + 1, h => by
    have h1 := sumN_le n fun i hi => h i (by omega)
    have h2 := h n (by omega)
    simp only [sumN]; omega
theorem sumN_lt {f g : Nat → Int} {k : Nat} : ∀ n, k < n → (∀ i, i < n → f i ≤ g i) → f k + 1 ≤ g k → sumN f n + 1 ≤ sumN g n
  | 0, hk, _, _ => by omega
  | n + 1, hk, h, hs => by
    have h2 := h n (by omega)
    simp only [sumN]
    by_cases e : k = n
    · subst e
      have h1 := sumN_le (f := f) (g := g) k fun i hi => h i (by omega)
      omega
    · have h1 := sumN_lt n (by omega) (fun i hi => h i (by omega)) hs
      omega
theorem sumN_upd {f g : Nat → Int} {k : Nat} {m : Int} : ∀ n, k < n → (∀ i, i < n → i ≠ k → g i = f i) → g k = f k + m → sumN g n = sumN f n + m
  | 0, hk, _, _ => by omega
  | n + 1, hk, h, hs => by
    simp only [sumN]
    by_cases e : k = n
    · subst e
      rw [sumN_congr k fun i hi => h i (by omega) (by omega)]
      omega
    · rw [sumN_upd n (by omega) (fun i hi hne => h i (by omega) hne) hs, h n (by omega) (by omega)]
      omega
theorem sumN_nn {f : Nat → Int} : ∀ n, (∀ i, i < n → 0 ≤ f i) → 0 ≤ sumN f n
  | 0, _ => Int.le_refl _
  | n + 1, h => by
    have h1 := sumN_nn n fun i hi => h i (by omega)
    have h2 := h n (by omega)
    simp only [sumN]; omega
theorem sumN_ub {f : Nat → Int} : ∀ n : Nat, (∀ i, i < n → f i ≤ 1) → sumN f n ≤ (n : Int)
  | 0, _ => by simp [sumN]
  | n + 1, h => by
    have h1 := sumN_ub n fun i hi => h i (by omega)
    have h2 := h n (by omega)
    simp only [sumN]; omega

/-! ### right schedules -/
def tEnd (t : Slot) : Int := t.start + t.minutes
def slE1 (l : List Job) (now : Int) (t : Slot) : Int :=
  if 0 ≤ t.job ∧ t.job ≤ (l.length : Int) - 1 then
    (if (1 ≤ t.minutes ∧ t.minutes ≤ 10000) ∧ (0 ≤ t.start ∧ t.start ≤ 20000000) then
      (if t.start < (jb l t.job.toNat).ready then 19 else if t.start < now then 17 else 0)
    else 2)
  else 6
def slE (l : List Job) : Int → List Slot → Int
  | _, [] => 0
  | now, t :: s => if slE1 l now t = 0 then slE l (tEnd t) s else slE1 l now t
def endN : Int → List Slot → Int
  | now, [] => now
  | _, t :: s => endN (tEnd t) s
theorem slE1_ok {l : List Job} {now : Int} {t : Slot} : slE1 l now t = 0 ↔ (0 ≤ t.job ∧ t.job < (l.length : Int)) ∧ (1 ≤ t.minutes ∧ t.minutes ≤ 10000) ∧ (0 ≤ t.start ∧ t.start ≤ 20000000) ∧ (jb l t.job.toNat).ready ≤ t.start ∧ now ≤ t.start := by
  unfold slE1
  split
  · split
    · split
      · simp; omega
      · split
        · simp; omega
        · simp; omega
    · simp; omega
  · simp; omega
theorem slE_append {l : List Job} {t : Slot} : ∀ {s : List Slot} {now : Int}, slE l now (s ++ [t]) = if slE l now s = 0 then slE1 l (endN now s) t else slE l now s
  | [], now => by
    simp only [List.nil_append, slE, endN, if_true]
    split
    · rename_i h; exact h.symm
    · rfl
  | x :: s, now => by
    have ih := slE_append (l := l) (t := t) (s := s) (now := tEnd x)
    by_cases h : slE1 l now x = 0
    · have e1 : slE l now (x :: s ++ [t]) = slE l (tEnd x) (s ++ [t]) := if_pos h
      have e2 : slE l now (x :: s) = slE l (tEnd x) s := if_pos h
      rw [e1, e2, ih]; rfl
    · have e1 : slE l now (x :: s ++ [t]) = slE1 l now x := if_neg h
      have e2 : slE l now (x :: s) = slE1 l now x := if_neg h
      rw [e1, e2, if_neg h]
theorem endN_append {t : Slot} : ∀ {s : List Slot} {now : Int}, endN now (s ++ [t]) = tEnd t
  | [], now => rfl
  | x :: s, now => by simp only [List.cons_append, endN]; exact endN_append
theorem slE_push {l : List Job} {s : List Slot} {t : Slot} {now : Int} : slE l now (s ++ [t]) = 0 ↔ slE l now s = 0 ∧ slE1 l (endN now s) t = 0 := by
  rw [slE_append]
  split
  · rename_i h; simp [h]
  · rename_i h; simp [h]
theorem slE_all {l : List Job} : ∀ {s : List Slot} {now : Int}, slE l now s = 0 → ∀ t ∈ s, ∃ w, slE1 l w t = 0
  | [], _, _, t, ht => by cases ht
  | x :: s, now, h, t, ht => by
    simp only [slE] at h
    split at h
    · rename_i h1
      rcases List.mem_cons.1 ht with rfl | ht
      · exact ⟨_, h1⟩
      · exact slE_all h t ht
    · rename_i h1; exact absurd h h1
def doneJ : List Slot → Nat → Int
  | [], _ => 0
  | t :: s, i => (if t.job = (i : Int) then t.minutes else 0) + doneJ s i
theorem doneJ_append {t : Slot} {i : Nat} : ∀ {s : List Slot}, doneJ (s ++ [t]) i = doneJ s i + if t.job = (i : Int) then t.minutes else 0
  | [] => by simp [doneJ]
  | x :: s => by simp only [List.cons_append, doneJ, doneJ_append (s := s)]; omega
theorem doneJ_nn {i : Nat} : ∀ {s : List Slot}, (∀ t ∈ s, 0 ≤ t.minutes) → 0 ≤ doneJ s i
  | [], _ => Int.le_refl _
  | x :: s, h => by
    have h1 := doneJ_nn (i := i) (s := s) fun t ht => h t (List.mem_cons_of_mem _ ht)
    have h2 := h x (List.mem_cons_self ..)
    simp only [doneJ]
    split <;> omega
def endJ (s : List Slot) (i : Nat) : Int := s.foldl (fun e t => if t.job = (i : Int) then tEnd t else e) 0
theorem endJ_append {s : List Slot} {t : Slot} {i : Nat} : endJ (s ++ [t]) i = if t.job = (i : Int) then tEnd t else endJ s i := by
  unfold endJ; rw [List.foldl_append]; rfl
theorem getD_set {l : List Int} {i j : Nat} {v : Int} (hi : i < l.length) : (l.set i v).getD j 0 = if i = j then v else l.getD j 0 := by
  rw [List.getD_eq_getElem?_getD, List.getD_eq_getElem?_getD, List.getElem?_set]
  by_cases h : i = j
  · subst h; simp [hi]
  · simp [h]
theorem endsK_get {n : Nat} {s : List Slot} (hs : ∀ t ∈ s, 0 ≤ t.job ∧ t.job < (n : Int)) : ∀ k, k ≤ s.length → ∀ i, i < n → (endsK n s k).getD i 0 = endJ (s.take k) i
  | 0, _, i, hi => by simp [endsK, endJ, List.getD_eq_getElem?_getD, List.getElem?_replicate, hi]
  | k + 1, hk, i, hi => by
    have hb := hs _ (List.getElem_mem (show k < s.length from hk))
    have hl := endsK_len n s k (by omega)
    rw [endsK_succ hk, getD_set (by omega), List.take_succ_eq_append_getElem hk, endJ_append, endsK_get hs k (by omega) i hi]
    have : (s[k].job.toNat = i) = (s[k].job = (i : Int)) := by apply propext; omega
    simp only [this, tEnd]
/-- what is done of each job. -/
def doneK (n : Nat) (s : List Slot) (k : Nat) : List Int := (s.take k).foldl (fun d t => d.set t.job.toNat (d.getD t.job.toNat 0 + t.minutes)) (List.replicate n 0)
theorem doneK_succ {n : Nat} {s : List Slot} {k : Nat} (h : k < s.length) : doneK n s (k + 1) = (doneK n s k).set s[k].job.toNat ((doneK n s k).getD s[k].job.toNat 0 + s[k].minutes) := by
  unfold doneK
  rw [List.take_succ_eq_append_getElem h, List.foldl_append]; rfl
theorem doneK_len (n : Nat) (s : List Slot) : ∀ k, k ≤ s.length → (doneK n s k).length = n
  | 0, _ => by simp [doneK]
  | k + 1, h => by rw [doneK_succ h, List.length_set]; exact doneK_len n s k (by omega)
theorem doneK_get {n : Nat} {s : List Slot} (hs : ∀ t ∈ s, 0 ≤ t.job ∧ t.job < (n : Int)) : ∀ k, k ≤ s.length → ∀ i, i < n → (doneK n s k).getD i 0 = doneJ (s.take k) i
  | 0, _, i, hi => by simp [doneK, doneJ, List.getD_eq_getElem?_getD, List.getElem?_replicate, hi]
  | k + 1, hk, i, hi => by
    have hb := hs _ (List.getElem_mem (show k < s.length from hk))
    have hl := doneK_len n s k (by omega)
    rw [doneK_succ hk, getD_set (by omega), List.take_succ_eq_append_getElem hk, doneJ_append, doneK_get hs k (by omega) i hi, doneK_get hs k (by omega) s[k].job.toNat (by omega)]
    by_cases h : s[k].job = (i : Int)
    · rw [if_pos (by omega), if_pos h, show s[k].job.toNat = i by omega]
    · rw [if_neg (by omega), if_neg h]; omega

/-! ### bounds -/
def bdE (n : Nat) : Int → List Int → Int
  | _, [] => 0
  | p, i :: s => if 0 ≤ i ∧ i ≤ (n : Int) - 1 then (if i ≤ p then 9 else bdE n i s) else 6
def bdErr (l : List Job) (s : List Int) : Int := if s = [] then 10 else bdE l.length (-1) s
theorem bdE_ok {n : Nat} : ∀ {s : List Int} {p : Int}, bdE n p s = 0 ↔ (∀ i ∈ s, 0 ≤ i ∧ i < (n : Int) ∧ p < i) ∧ s.Pairwise (· < ·)
  | [], p => by simp [bdE]
  | a :: s, p => by
    rw [bdE, List.pairwise_cons, List.forall_mem_cons]
    split
    · split
      · simp; omega
      · rw [bdE_ok (s := s)]
        constructor
        · rintro ⟨h1, h2⟩
          exact ⟨⟨by omega, fun i hi => by have := h1 i hi; omega⟩, fun i hi => (h1 i hi).2.2, h2⟩
        · rintro ⟨⟨h1, h2⟩, h3, h4⟩
          exact ⟨fun i hi => by have := h2 i hi; have := h3 i hi; omega, h4⟩
    · simp; omega
structure SetOk (n : Nat) (s : List Int) : Prop where
  ne : 0 < s.length
  rg : ∀ i ∈ s, 0 ≤ i ∧ i < (n : Int)
  nd : s.Nodup
theorem bdErr_ok {l : List Job} {s : List Int} (h : bdErr l s = 0) : SetOk l.length s := by
  unfold bdErr at h
  split at h
  · cases h
  · rename_i h1
    obtain ⟨h2, h3⟩ := bdE_ok.1 h
    exact ⟨List.length_pos_iff.2 h1, fun i hi => ⟨(h2 i hi).1, (h2 i hi).2.1⟩, h3.imp fun h => by omega⟩
theorem jb_mem {l : List Job} {i : Nat} (h : i < l.length) : jb l i ∈ l := by rw [jb_eq h]; exact List.getElem_mem h
def sumS (f : Nat → Int) (s : List Int) : Int := (s.map fun i => f i.toNat).sum
theorem bnd_facts {l : List Job} {s : List Int} (hs : ∀ i ∈ s, 0 ≤ i ∧ i < (l.length : Int)) (h0 : 0 < s.length) : ∀ k, k ≤ s.length →
    ((bndK l s k).1 ≤ (jb l (s.getD 0 0).toNat).ready ∧ ∀ j (hj : j < s.length), j < k → (bndK l s k).1 ≤ (jb l s[j].toNat).ready) ∧ (∀ x, (∀ j (hj : j < s.length), x ≤ (jb l s[j].toNat).ready) → x ≤ (bndK l s k).1) ∧
    (bndK l s k).2.1 = sumS (fun i => (jb l i).minutes) (s.take k) ∧
    (∀ j (hj : j < s.length), j < k → (jb l s[j].toNat).due ≤ (bndK l s k).2.2) ∧ (∀ x, (∀ j (hj : j < s.length), (jb l s[j].toNat).due ≤ x) → (bndK l s k).2.2 ≤ x)
  | 0, _ => by
    have e : s.getD 0 0 = s[0] := by simp [List.getD_eq_getElem?_getD, List.getElem?_eq_getElem h0]
    have hz : bndK l s 0 = ((jb l (s.getD 0 0).toNat).ready, (0 : Int), (jb l (s.getD 0 0).toNat).due) := by simp only [bndK, List.take_zero, List.foldl_nil]; rfl
    rw [hz, e]
    exact ⟨⟨Int.le_refl _, fun j hj h => by omega⟩, fun x h => h 0 h0, rfl, fun j hj h => by omega, fun x h => h 0 h0⟩
  | k + 1, hk => by
    obtain ⟨⟨a0, a1⟩, a2, a3, a4, a5⟩ := bnd_facts hs h0 k (by omega)
    have hj := hs _ (List.getElem_mem (show k < s.length from hk))
    have hjl : s[k].toNat < l.length := by omega
    rw [bndK_succ hk hjl, ← jb_eq hjl]
    refine ⟨⟨by simp only; omega, fun j hj' h => ?_⟩, fun x h => ?_, ?_, fun j hj' h => ?_, fun x h => ?_⟩
    · by_cases e : j = k
      · subst e; simp only; omega
      · have := a1 j hj' (by omega)
        simp only; omega
    · have h1 := a2 x h
      have h2 := h k hk
      simp only; omega
    · simp only
      rw [a3, List.take_succ_eq_append_getElem hk]
      unfold sumS
      rw [List.map_append, List.sum_append]
      simp
    · by_cases e : j = k
      · subst e; simp only; omega
      · have := a4 j hj' (by omega)
        simp only; omega
    · have h1 := a5 x h
      have h2 := h k hk
      simp only; omega
theorem sumS_upd {T : List Slot} {t : Slot} (ht : 0 ≤ t.job) : ∀ {s : List Int}, s.Nodup → (∀ i ∈ s, 0 ≤ i) → sumS (doneJ (T ++ [t])) s = sumS (doneJ T) s + if t.job ∈ s then t.minutes else 0
  | [], _, _ => by simp [sumS]
  | a :: s, hn, hp => by
    have ih := sumS_upd (T := T) ht (List.nodup_cons.1 hn).2 fun i hi => hp i (List.mem_cons_of_mem _ hi)
    have ha := hp a (List.mem_cons_self ..)
    have hna := (List.nodup_cons.1 hn).1
    unfold sumS at ih ⊢
    simp only [List.map_cons, List.sum_cons]
    rw [ih, doneJ_append]
    by_cases e : t.job = a
    · subst e
      rw [if_pos (by omega), if_neg hna, if_pos (List.mem_cons_self ..)]; omega
    · rw [if_neg (by omega)]
      by_cases h : t.job ∈ s
      · rw [if_pos h, if_pos (List.mem_cons_of_mem _ h)]; omega
      · rw [if_neg h, if_neg (fun h2 => by rcases List.mem_cons.1 h2 with h2 | h2; exact e h2; exact h h2)]; omega
theorem sumS_congr {f g : Nat → Int} {s : List Int} (h : ∀ i ∈ s, f i.toNat = g i.toNat) : sumS f s = sumS g s := by
  unfold sumS
  rw [List.map_congr_left h]
theorem busy {l : List Job} {s : List Slot} {S : List Int} (hS : SetOk l.length S) {r : Int} (hr : ∀ i ∈ S, r ≤ (jb l i.toNat).ready) : ∀ k, k ≤ s.length → slE l 0 (s.take k) = 0 →
    ∃ m, r + sumS (doneJ (s.take k)) S ≤ m ∧ m ≤ max (endN 0 (s.take k)) r ∧ ((sumS (doneJ (s.take k)) S = 0 ∧ m = r) ∨ ∃ i ∈ S, endJ (s.take k) i.toNat = m)
  | 0, _, _ => by
    have hz : sumS (doneJ []) S = 0 := by
      rw [sumS_congr (g := fun _ => 0) fun i _ => rfl]
      unfold sumS
      clear hr hS
      induction S with
      | nil => rfl
      | cons a S ih => simp only [List.map_cons, List.sum_cons, ih]; rfl
    refine ⟨r, ?_, ?_, .inl ⟨?_, rfl⟩⟩ <;> simp only [List.take_zero, hz] <;> omega
  | k + 1, hk, h => by
    rw [List.take_succ_eq_append_getElem hk] at h ⊢
    obtain ⟨h1, h2⟩ := slE_push.1 h
    obtain ⟨m, m1, m2, m3⟩ := busy hS hr k (by omega) h1
    obtain ⟨j1, j2, j3, j4, j5⟩ := slE1_ok.1 h2
    have hup := sumS_upd (T := s.take k) (t := s[k]) j1.1 hS.nd fun i hi => (hS.rg i hi).1
    rw [endN_append, hup]
    unfold tEnd
    by_cases e : s[k].job ∈ S
    · rw [if_pos e]
      have hrr := hr _ e
      clear m3
      refine ⟨tEnd s[k], by unfold tEnd; omega, by unfold tEnd; omega, .inr ⟨s[k].job, e, ?_⟩⟩
      rw [endJ_append, if_pos (by omega)]
    · rw [if_neg e]
      have p1 : r + (sumS (doneJ (s.take k)) S + 0) ≤ m := by clear m3; omega
      have p2 : m ≤ max (s[k].start + s[k].minutes) r := by clear m3; omega
      refine ⟨m, p1, p2, ?_⟩
      rcases m3 with ⟨a, b⟩ | ⟨i, hi, hm⟩
      · exact .inl ⟨by omega, b⟩
      · refine .inr ⟨i, hi, ?_⟩
        have := hS.rg i hi
        rw [endJ_append, if_neg (fun h => e (by rw [h, show ((i.toNat : Nat) : Int) = i by omega]; exact hi))]
        exact hm
/-- no schedule is less late than the bound of a set. -/
theorem bound_le {l : List Job} (hj : JobsOk l) {s : List Slot} {S : List Int} (hS : SetOk l.length S) (h1 : slE l 0 s = 0) (h2 : ∀ i, i < l.length → doneJ s i = (jb l i).minutes) : ∃ i, i < l.length ∧ bndE l S ≤ endJ s i - (jb l i).due := by
  obtain ⟨⟨a0, a1⟩, a2, a3, a4, a5⟩ := bnd_facts hS.rg hS.ne S.length (Nat.le_refl _)
  have hr : ∀ i ∈ S, (bndK l S S.length).1 ≤ (jb l i.toNat).ready := fun i hi => by
    obtain ⟨j, hj, rfl⟩ := List.getElem_of_mem hi
    exact a1 j hj hj
  have hb := busy (s := s) hS hr s.length (Nat.le_refl _) (by rw [List.take_length]; exact h1)
  rw [List.take_length] at hb a3
  obtain ⟨m, m1, m2, m3⟩ := hb
  have hsum : sumS (doneJ s) S = (bndK l S S.length).2.1 := by
    rw [a3]
    refine sumS_congr fun i hi => h2 _ (by have := hS.rg i hi; omega)
  have hpos : 0 < sumS (doneJ s) S := by
    have hp : ∀ {T : List Int}, (∀ i ∈ T, 0 ≤ i ∧ i < (l.length : Int)) → (T.length : Int) ≤ sumS (doneJ s) T := by
      intro T
      induction T with
      | nil => intro _; simp [sumS]
      | cons a T ih =>
        intro h
        have q1 := ih fun i hi => h i (List.mem_cons_of_mem _ hi)
        have q2 := h a (List.mem_cons_self ..)
        have q3 := h2 a.toNat (by omega)
        have q4 := hj.minutes _ (jb_mem (show a.toNat < l.length by omega))
        unfold sumS at q1 ⊢
        simp only [List.map_cons, List.sum_cons, List.length_cons]
        omega
    have := hp hS.rg
    have := hS.ne
    omega
  rcases m3 with ⟨h, _⟩ | ⟨i, hi, hm⟩
  · omega
  · obtain ⟨j, hjl, hje⟩ := List.getElem_of_mem hi
    have hd := a4 j hjl hjl
    rw [hje] at hd
    have := hS.rg i hi
    refine ⟨i.toNat, by omega, ?_⟩
    unfold bndE
    omega
end Go.Proofs.Ytaagelngbbkllaa
