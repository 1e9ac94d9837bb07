/-
  Chapter 9, plain: the schedule by dues is right, and a set proves that none is less late.
-/
import Derived.Test.YtaagelngbbkllaaVP9S
namespace Go.Proofs.Ytaagelngbbkllaa
open Go Go.Vx
set_option linter.unusedSimpArgs false
set_option linter.unusedVariables false
theorem scan_least {l : List Job} {left : List Int} {now : Int} : ∀ k, 0 ≤ (scan l left now k).1 → (jb l (scan l left now k).1.toNat).ready ≤ now ∧ ∀ i, i < k → left.getD i 0 ≠ 0 → (jb l i).ready ≤ now → (jb l (scan l left now k).1.toNat).due ≤ (jb l i).due
  | 0, h => by simp [scan] at h
  | k + 1, h => by
    have ih := scan_least (l := l) (left := left) (now := now) k
    simp only [scan] at h ⊢
    split at h
    · rename_i h0
      rw [if_pos h0]
      obtain ⟨a, b⟩ := ih h
      refine ⟨a, fun i hi h1 h2 => ?_⟩
      by_cases e : i = k
      · subst e; exact absurd h0 h1
      · exact b i (by omega) h1 h2
    · rename_i h0
      rw [if_neg h0]
      split at h
      · rename_i h1
        rw [if_pos h1]
        obtain ⟨a, b⟩ := ih h
        refine ⟨a, fun i hi h2 h3 => ?_⟩
        by_cases e : i = k
        · subst e; omega
        · exact b i (by omega) h2 h3
      · rename_i h1
        rw [if_neg h1]
        simp only at h ⊢
        split at h
        · rename_i h2
          rw [if_pos h2, Int.toNat_natCast]
          refine ⟨by omega, fun i hi h3 h4 => ?_⟩
          by_cases e : i = k
          · subst e; exact Int.le_refl _
          · rcases h2 with h2 | h2
            · have := scan_has (l := l) (left := left) (now := now) h3 h4 k (by omega)
              omega
            · by_cases hp : 0 ≤ (scan l left now k).1
              · have := (ih hp).2 i (by omega) h3 h4
                omega
              · have := scan_has (l := l) (left := left) (now := now) h3 h4 k (by omega)
                omega
        · rename_i h2
          rw [if_neg h2]
          obtain ⟨a, b⟩ := ih h
          refine ⟨a, fun i hi h3 h4 => ?_⟩
          by_cases e : i = k
          · subst e; omega
          · exact b i (by omega) h3 h4
theorem scan_nle {l : List Job} {left : List Int} {now : Int} (hr : ∀ i, i < l.length → 0 ≤ (jb l i).ready) : ∀ k, k ≤ l.length → ∀ i, i < k → left.getD i 0 ≠ 0 → now < (jb l i).ready → 0 ≤ (scan l left now k).2 ∧ (scan l left now k).2 ≤ (jb l i).ready
  | 0, _, i, hi, _, _ => by omega
  | k + 1, hk, i, hi, h1, h2 => by
    have hrk := hr k (by omega)
    simp only [scan]
    by_cases e : i = k
    · subst e
      rw [if_neg h1, if_pos h2]
      simp only
      split <;> omega
    · have ih := scan_nle (left := left) (now := now) hr k (by omega) i (by omega) h1 h2
      split
      · exact ih
      · split
        · simp only
          split <;> omega
        · exact ih
/-- what was done of the jobs that are ready from 'b' on, and due up to 'd'. -/
def wrkF (l : List Job) (left : List Int) (d b : Int) (i : Nat) : Int := if b ≤ (jb l i).ready ∧ (jb l i).due ≤ d then (jb l i).minutes - left.getD i 0 else 0
def wrk (l : List Job) (left : List Int) (d b : Int) : Int := sumN (wrkF l left d b) l.length
def cmplF (left : List Int) (i : Nat) : Int := if left.getD i 0 = 0 then 1 else 0
def relF (l : List Job) (now : Int) (i : Nat) : Int := if (jb l i).ready ≤ now then 1 else 0
structure DRun (l : List Job) (s : DS) : Prop where
  ok : slE l 0 s.out = 0
  en : endN 0 s.out ≤ s.now
  dn : ∀ i, i < l.length → doneJ s.out i = (jb l i).minutes - s.left.getD i 0
  ct : (s.out.length : Int) ≤ sumN (cmplF s.left) l.length + sumN (relF l s.now) l.length
  iv : ∀ d, ∃ b, b ≤ s.now ∧ (∀ i, i < l.length → (jb l i).due ≤ d → s.left.getD i 0 ≠ 0 → b ≤ (jb l i).ready) ∧ s.now - b ≤ wrk l s.left d b
  dq : ∀ j, j < l.length → s.left.getD j 0 = 0 → ∃ S ∈ setsL l, endJ s.out j - (jb l j).due ≤ bndE l S
theorem min_ex (f : Nat → Int) (P : Nat → Prop) : ∀ n k, k < n → P k → ∃ a, a < n ∧ P a ∧ ∀ i, i < n → P i → f a ≤ f i
  | 0, k, hk, _ => by omega
  | n + 1, k, hk, hP => by
    by_cases hq : ∃ j, j < n ∧ P j
    · obtain ⟨j, hj, hPj⟩ := hq
      obtain ⟨a, h1, h2, h3⟩ := min_ex f P n j hj hPj
      by_cases hn : P n ∧ f n < f a
      · refine ⟨n, by omega, hn.1, fun i hi hp => ?_⟩
        by_cases e : i = n
        · subst e; exact Int.le_refl _
        · have := h3 i (by omega) hp
          omega
      · refine ⟨a, by omega, h2, fun i hi hp => ?_⟩
        by_cases e : i = n
        · subst e
          by_cases hlt : f i < f a
          · exact absurd ⟨hp, hlt⟩ hn
          · omega
        · exact h3 i (by omega) hp
    · have e : k = n := by
        by_cases e : k = n
        · exact e
        · exact absurd ⟨k, by omega, hP⟩ hq
      subst e
      refine ⟨k, by omega, hP, fun i hi hp => ?_⟩
      by_cases e : i = k
      · subst e; exact Int.le_refl _
      · exact absurd ⟨i, by omega, hp⟩ hq
theorem setK_sum {l : List Job} {a b : Job} {g : Nat → Int} : ∀ k, k ≤ l.length → sumS g (setK l a b k) = sumN (fun i => if inSet a b (jb l i) = true then g i else 0) k
  | 0, _ => rfl
  | k + 1, hk => by
    rw [setK_succ hk, sumN, ← setK_sum k (by omega), ← jb_eq hk]
    split
    · unfold sumS
      rw [List.map_append, List.sum_append]
      simp
    · simp
theorem setK_in {l : List Job} {a b : Job} {i : Int} : ∀ {k}, k ≤ l.length → (i ∈ setK l a b k ↔ (0 ≤ i ∧ i < (k : Int)) ∧ inSet a b (jb l i.toNat) = true)
  | 0, _ => by simp [setK]; omega
  | k + 1, hk => by
    rw [setK_succ hk, ← jb_eq hk]
    split
    · rename_i h
      rw [List.mem_append, List.mem_singleton, setK_in (by omega)]
      constructor
      · rintro (⟨h1, h2⟩ | rfl)
        · exact ⟨by omega, h2⟩
        · exact ⟨by omega, by rw [Int.toNat_natCast]; exact h⟩
      · rintro ⟨h1, h2⟩
        by_cases e : i = (k : Int)
        · exact .inr e
        · exact .inl ⟨by omega, h2⟩
    · rename_i h
      rw [setK_in (by omega)]
      constructor
      · rintro ⟨h1, h2⟩; exact ⟨by omega, h2⟩
      · rintro ⟨h1, h2⟩
        refine ⟨?_, h2⟩
        have : i ≠ (k : Int) := fun e => h (by rw [e, Int.toNat_natCast] at h2; exact h2)
        omega
theorem setK_asc (l : List Job) (a b : Job) (k : Nat) : (setK l a b k).Pairwise (· < ·) := by
  unfold setK
  exact List.Pairwise.map (fun i : Nat => (i : Int)) (fun a b h => by omega) (List.Pairwise.filter _ List.pairwise_lt_range)
theorem setsL_ok {l : List Job} {S : List Int} (h : S ∈ setsL l) : bdErr l S = 0 := by
  simp only [setsL, setsO, setsI, List.mem_flatMap] at h
  obtain ⟨a, _, b, _, h⟩ := h
  unfold setP at h
  split at h
  · cases h
  · rename_i hne
    rw [List.mem_singleton] at h; subst h
    rw [bdErr, if_neg hne, bdE_ok]
    exact ⟨fun i hi => by have := ((setK_in (Nat.le_refl _)).1 hi).1; omega, setK_asc l a b _⟩
theorem setsL_in {l : List Job} {a b : Nat} (ha : a < l.length) (hb : b < l.length) (hne : setK l (jb l a) (jb l b) l.length ≠ []) : setK l (jb l a) (jb l b) l.length ∈ setsL l := by
  simp only [setsL, setsO, setsI, List.mem_flatMap, List.take_length]
  refine ⟨jb l a, jb_mem ha, jb l b, jb_mem hb, ?_⟩
  rw [setP, if_neg hne]
  exact List.mem_singleton.2 rfl
theorem set_ex {l : List Job} {b x : Int} {k : Nat} (hk : k < l.length) (h1 : b ≤ (jb l k).ready) (h2 : x ≤ sumN (fun i => if b ≤ (jb l i).ready ∧ (jb l i).due ≤ (jb l k).due then (jb l i).minutes else 0) l.length) : ∃ S ∈ setsL l, b + x - (jb l k).due ≤ bndE l S := by
  obtain ⟨a, a1, ⟨a2, a3⟩, a4⟩ := min_ex (fun i => (jb l i).ready) (fun i => b ≤ (jb l i).ready ∧ (jb l i).due ≤ (jb l k).due) l.length k hk ⟨h1, Int.le_refl _⟩
  have hin : ∀ i, i < l.length → (inSet (jb l a) (jb l k) (jb l i) = true ↔ b ≤ (jb l i).ready ∧ (jb l i).due ≤ (jb l k).due) := fun i hi => by
    simp only [inSet, Bool.and_eq_true, decide_eq_true_eq]
    constructor
    · rintro ⟨p, q⟩; exact ⟨by omega, q⟩
    · rintro ⟨p, q⟩; exact ⟨a4 i hi ⟨p, q⟩, q⟩
  have hkm : (k : Int) ∈ setK l (jb l a) (jb l k) l.length := (setK_in (Nat.le_refl _)).2 ⟨by omega, by rw [Int.toNat_natCast]; exact (hin k hk).2 ⟨h1, Int.le_refl _⟩⟩
  have hne : setK l (jb l a) (jb l k) l.length ≠ [] := fun e => by rw [e] at hkm; cases hkm
  refine ⟨_, setsL_in a1 hk hne, ?_⟩
  have hsum := setK_sum (l := l) (a := jb l a) (b := jb l k) (g := fun i => (jb l i).minutes) l.length (Nat.le_refl _)
  have hcg : sumN (fun i => if inSet (jb l a) (jb l k) (jb l i) = true then (jb l i).minutes else 0) l.length = sumN (fun i => if b ≤ (jb l i).ready ∧ (jb l i).due ≤ (jb l k).due then (jb l i).minutes else 0) l.length := sumN_congr _ fun i hi => by
    by_cases h : b ≤ (jb l i).ready ∧ (jb l i).due ≤ (jb l k).due
    · rw [if_pos h, if_pos ((hin i hi).2 h)]
    · rw [if_neg h, if_neg (fun h2 => h ((hin i hi).1 h2))]
  have hmem : ∀ i ∈ setK l (jb l a) (jb l k) l.length, (0 ≤ i ∧ i < (l.length : Int)) ∧ b ≤ (jb l i.toNat).ready ∧ (jb l i.toNat).due ≤ (jb l k).due := fun i hi => by
    obtain ⟨p, q⟩ := (setK_in (Nat.le_refl _)).1 hi
    exact ⟨p, (hin i.toNat (by omega)).1 q⟩
  generalize setK l (jb l a) (jb l k) l.length = S at *
  obtain ⟨_, f2, f3, _, f5⟩ := bnd_facts (l := l) (s := S) (fun i hi => (hmem i hi).1) (List.length_pos_iff.2 hne) S.length (Nat.le_refl _)
  have g1 := f2 b fun j hj => (hmem _ (List.getElem_mem hj)).2.1
  have g2 := f5 (jb l k).due fun j hj => (hmem _ (List.getElem_mem hj)).2.2
  rw [List.take_length] at f3
  unfold bndE
  omega
theorem ds0_run {l : List Job} (hj : JobsOk l) : DRun l (ds0 l) := by
  have hl : ∀ i, i < l.length → (ds0 l).left.getD i 0 = (jb l i).minutes := fun i hi => by
    simp [ds0, List.getD_eq_getElem?_getD, List.getElem?_eq_getElem hi, jb_eq hi]
  refine ⟨rfl, Int.le_refl _, fun i hi => ?_, ?_, fun d => ⟨0, Int.le_refl _, fun i hi _ _ => (hj.ready _ (jb_mem hi)).1, ?_⟩, fun j hjl h0 => ?_⟩
  · rw [hl i hi]; simp [ds0, doneJ]
  · have h1 := sumN_nn (f := cmplF (ds0 l).left) l.length fun i _ => by unfold cmplF; split <;> omega
    have h2 := sumN_nn (f := relF l (ds0 l).now) l.length fun i _ => by unfold relF; split <;> omega
    have h3 : (ds0 l).out.length = 0 := rfl
    omega
  · have h1 := sumN_nn (f := wrkF l (ds0 l).left d 0) l.length fun i hi => by unfold wrkF; rw [hl i hi]; split <;> omega
    have h2 : (ds0 l).now = 0 := rfl
    unfold wrk
    omega
  · rw [hl j hjl] at h0
    have := hj.minutes _ (jb_mem hjl)
    omega
theorem putS_cases {out : List Slot} {b now long : Int} : putS out b now long = out ++ [⟨b, now, long⟩] ∨ ∃ init t, out = init ++ [t] ∧ t.job = b ∧ tEnd t = now ∧ putS out b now long = init ++ [⟨b, t.start, t.minutes + long⟩] := by
  unfold putS
  split
  · rename_i h
    obtain ⟨h1, h2, h3⟩ := h
    refine .inr ⟨out.dropLast, out.getLast h1, (List.dropLast_concat_getLast h1).symm, ?_⟩
    have hl : lastS out = out.getLast h1 := by
      have hlt : out.length - 1 < out.length := by have := List.length_pos_iff.2 h1; omega
      simp [lastS, List.getD_eq_getElem?_getD, List.getElem?_eq_getElem hlt, List.getLast_eq_getElem]
    rw [hl] at h2 h3 ⊢
    refine ⟨h2, h3, ?_⟩
    rw [h2]
    generalize hx : (⟨b, (out.getLast h1).start, (out.getLast h1).minutes + long⟩ : Slot) = x
    have e : out = out.dropLast ++ [out.getLast h1] := (List.dropLast_concat_getLast h1).symm
    have hlen : out.length - 1 = out.dropLast.length := by simp
    rw [hlen]
    conv => lhs; rw [e]
    have hlen2 : (out.dropLast ++ [out.getLast h1]).dropLast.length = out.dropLast.length := by simp
    rw [hlen2, List.set_append_right _ _ (Nat.le_refl _)]
    simp
  · exact .inl rfl
theorem stp_run {l : List Job} (hj : JobsOk l) {s s' : DS} (h : DOk l s) (r : DRun l s) (hs : stp l s = some s') : DRun l s' := by
  have hrd : ∀ i, i < l.length → 0 ≤ (jb l i).ready := fun i hi => (hj.ready _ (jb_mem hi)).1
  have hlb : ∀ i, i < l.length → 0 ≤ s.left.getD i 0 := fun i hi => by
    have hi' : i < s.left.length := by have := h.ll; omega
    rw [gd_eq hi']; exact (h.lb _ (List.getElem_mem hi')).1
  have hsc : scan l s.left s.now l.length = scn l s := rfl
  have hnle := scan_nle (left := s.left) (now := s.now) hrd l.length (Nat.le_refl _)
  rw [hsc] at hnle
  unfold stp at hs
  split at hs
  · rename_i hb
    split at hs
    · cases hs
    · rename_i hx
      cases hs
      have hnx : s.now < (scn l s).2 := by
        rcases scan_next (l := l) (left := s.left) (now := s.now) l.length with h2 | ⟨i, h3, h4, h5, h6⟩
        · rw [hsc] at h2; omega
        · rw [hsc] at h6; omega
      refine ⟨r.ok, by have := r.en; simp only; omega, r.dn, ?_, fun d => ⟨(scn l s).2, Int.le_refl _, fun i hi hd hl => ?_, ?_⟩, r.dq⟩
      · have h1 := sumN_le (f := relF l s.now) (g := relF l (scn l s).2) l.length fun i _ => by
          unfold relF
          split
          · rw [if_pos (by omega)]; exact Int.le_refl _
          · split <;> omega
        have := r.ct
        simp only; omega
      · by_cases hrel : s.now < (jb l i).ready
        · exact (hnle i hi hl hrel).2
        · have := scan_has (l := l) (left := s.left) (now := s.now) hl (by omega) l.length hi
          rw [hsc] at this
          omega
      · have h1 := sumN_nn (f := wrkF l s.left d (scn l s).2) l.length fun i hi => by
          unfold wrkF
          have h1 := r.dn i hi
          have h2 := doneJ_nn (i := i) (s := s.out) fun t ht => by
            obtain ⟨w, hw⟩ := slE_all r.ok t ht
            have := (slE1_ok.1 hw).2.1; omega
          split <;> omega
        unfold wrk
        simp only; omega
  · rename_i hb
    cases hs
    obtain ⟨b0, b1, b2, b3, b4⟩ := long_b h hb
    obtain ⟨k, hk⟩ : ∃ k : Nat, (scn l s).1 = (k : Int) := ⟨(scn l s).1.toNat, by omega⟩
    have hsl := scan_least (l := l) (left := s.left) (now := s.now) l.length (by rw [hsc]; omega)
    rw [hsc] at hsl
    have hlong : longS l s = s.left.getD k 0 ∨ (0 ≤ (scn l s).2 ∧ longS l s = (scn l s).2 - s.now) := by
      unfold longS
      rw [hk, Int.toNat_natCast]
      split
      · rename_i h0
        by_cases e : s.left.getD k 0 ≤ (scn l s).2 - s.now
        · exact .inl (by omega)
        · exact .inr ⟨h0, by omega⟩
      · exact .inl rfl
    have hlong2 : 0 ≤ (scn l s).2 → longS l s ≤ (scn l s).2 - s.now := fun h0 => by
      unfold longS
      rw [if_pos h0]; omega
    rw [hk, Int.toNat_natCast] at b3 hsl ⊢
    have hkl : k < l.length := by omega
    have hkll : k < s.left.length := by have := h.ll; omega
    obtain ⟨hl1, hl2⟩ := hsl
    generalize hm : longS l s = m at *
    have hg : ∀ i, (s.left.set k (s.left.getD k 0 - m)).getD i 0 = if k = i then s.left.getD k 0 - m else s.left.getD i 0 := fun i => getD_set hkll
    have hlk : s.left.getD k 0 ≠ 0 := by omega
    have hmin := hj.minutes _ (jb_mem hkl)
    have hdk := r.dn k hkl
    have hnn : ∀ i, 0 ≤ doneJ s.out i := fun i => doneJ_nn fun t ht => by
      obtain ⟨w, hw⟩ := slE_all r.ok t ht
      have := (slE1_ok.1 hw).2.1; omega
    have hnb := h.nb
    have hns := h.ns
    have hsn := sum_nn fun x hx => (h.lb x hx).1
    have hdkn := hnn k
    -- the slots
    have hput : slE l 0 (putS s.out (k : Int) s.now m) = 0 ∧ endN 0 (putS s.out (k : Int) s.now m) = s.now + m ∧ (∀ i, doneJ (putS s.out (k : Int) s.now m) i = doneJ s.out i + if k = i then m else 0) ∧ (∀ i, k ≠ i → endJ (putS s.out (k : Int) s.now m) i = endJ s.out i) ∧ endJ (putS s.out (k : Int) s.now m) k = s.now + m ∧ (putS s.out (k : Int) s.now m).length ≤ s.out.length + 1 := by
      rcases putS_cases (out := s.out) (b := (k : Int)) (now := s.now) (long := m) with e | ⟨init, t, e1, e2, e3, e4⟩
      · rw [e]
        refine ⟨slE_push.2 ⟨r.ok, slE1_ok.2 ⟨⟨by simp only; omega, by simp only; omega⟩, ⟨by simp only; omega, by simp only; omega⟩, ⟨by simp only; omega, by simp only; omega⟩, by simp only [Int.toNat_natCast]; exact hl1, r.en⟩⟩, endN_append, fun i => ?_, fun i hi => ?_, ?_, by simp⟩
        · rw [doneJ_append]; simp only [Int.ofNat_inj, Int.natCast_inj]
        · rw [endJ_append, if_neg (by simp only; omega)]
        · rw [endJ_append, if_pos rfl]; rfl
      · have hok := r.ok
        have hdn := hdk
        rw [e1] at hok hdn
        obtain ⟨q1, q2⟩ := slE_push.1 hok
        obtain ⟨p1, p2, p3, p4, p5⟩ := slE1_ok.1 q2
        have hin : 0 ≤ doneJ init k := doneJ_nn fun t ht => by
          obtain ⟨w, hw⟩ := slE_all q1 t ht
          have := (slE1_ok.1 hw).2.1; omega
        rw [doneJ_append, if_pos e2] at hdn
        rw [e4, e1]
        unfold tEnd at e3
        refine ⟨slE_push.2 ⟨q1, slE1_ok.2 ⟨⟨by simp only; omega, by simp only; omega⟩, ⟨by simp only; omega, by simp only; omega⟩, p3, by simp only [Int.toNat_natCast]; rw [e2, Int.toNat_natCast] at p4; exact p4, p5⟩⟩, by rw [endN_append]; unfold tEnd; simp only; omega, fun i => ?_, fun i hi => ?_, ?_, by simp⟩
        · rw [doneJ_append, doneJ_append, e2]
          simp only
          by_cases hi : k = i
          · subst hi; rw [if_pos rfl, if_pos rfl, if_pos rfl]; omega
          · rw [if_neg (by omega), if_neg (by omega), if_neg hi]; omega
        · rw [endJ_append, endJ_append, e2, if_neg (by simp only; omega), if_neg (by omega)]
        · rw [endJ_append, if_pos rfl]; unfold tEnd; simp only; omega
    obtain ⟨u1, u2, u3, u4, u5, u6⟩ := hput
    have hW : ∀ d b, (jb l k).due ≤ d → b ≤ (jb l k).ready → wrk l (s.left.set k (s.left.getD k 0 - m)) d b = wrk l s.left d b + m := fun d b hd hb' => by
      refine sumN_upd (k := k) l.length hkl (fun i hi hne => ?_) ?_
      · have e1 := hg i
        rw [if_neg (fun e => hne e.symm)] at e1
        unfold wrkF; rw [e1]
      · have e1 := hg k
        rw [if_pos rfl] at e1
        unfold wrkF; rw [e1, if_pos ⟨hb', hd⟩, if_pos ⟨hb', hd⟩]; omega
    refine ⟨u1, by rw [u2]; exact Int.le_refl _, fun i hi => ?_, ?_, fun d => ?_, fun j hjl h0 => ?_⟩
    · simp only
      rw [u3, hg, r.dn i hi]
      by_cases e : k = i
      · subst e; rw [if_pos rfl, if_pos rfl]; omega
      · rw [if_neg e, if_neg e]; omega
    · simp only
      have hct := r.ct
      have c1 : ∀ i, i < l.length → cmplF s.left i ≤ cmplF (s.left.set k (s.left.getD k 0 - m)) i := fun i hi => by
        unfold cmplF
        rw [hg]
        by_cases e : k = i
        · subst e; rw [if_neg hlk]; split <;> omega
        · rw [if_neg e]; exact Int.le_refl _
      have c2 : ∀ i, i < l.length → relF l s.now i ≤ relF l (s.now + m) i := fun i hi => by
        unfold relF
        split
        · rw [if_pos (by omega)]; exact Int.le_refl _
        · split <;> omega
      have d1 := sumN_le l.length c1
      have d2 := sumN_le l.length c2
      rcases hlong with e | ⟨e0, e⟩
      · have d3 := sumN_lt (k := k) l.length hkl c1 (by
          unfold cmplF
          rw [hg, if_neg hlk, if_pos rfl, if_pos (by omega)]; omega)
        omega
      · rcases scan_next (l := l) (left := s.left) (now := s.now) l.length with h2 | ⟨i, h3, h4, h5, h6⟩
        · rw [hsc] at h2; omega
        · rw [hsc] at h6
          have d3 := sumN_lt (k := i) l.length h3 c2 (by
            unfold relF
            rw [if_neg (by omega), if_pos (by omega)]; omega)
          omega
    · simp only
      obtain ⟨b, v1, v2, v3⟩ := r.iv d
      by_cases hd : (jb l k).due ≤ d
      · refine ⟨b, by omega, fun i hi hdi hl => ?_, ?_⟩
        · rw [hg] at hl
          by_cases e : k = i
          · subst e; exact v2 k hi hdi hlk
          · rw [if_neg e] at hl; exact v2 i hi hdi hl
        · rw [hW d b hd (v2 k hkl hd hlk)]; omega
      · refine ⟨s.now + m, Int.le_refl _, fun i hi hdi hl => ?_, ?_⟩
        · rw [hg] at hl
          by_cases e : k = i
          · subst e; exact absurd hdi hd
          · rw [if_neg e] at hl
            by_cases hrel : s.now < (jb l i).ready
            · have h7 := hnle i hi hl hrel
              have h8 := hlong2 h7.1
              omega
            · have := hl2 i hi hl (by omega)
              omega
        · have h1 := sumN_nn (f := wrkF l (s.left.set k (s.left.getD k 0 - m)) d (s.now + m)) l.length fun i hi => by
            unfold wrkF
            have h1 := r.dn i hi
            have h2 := hnn i
            rw [hg]
            split
            · by_cases e : k = i
              · subst e; rw [if_pos rfl]; omega
              · rw [if_neg e]; omega
            · exact Int.le_refl _
          unfold wrk
          omega
    · simp only at h0 ⊢
      rw [hg] at h0
      by_cases e : k = j
      · subst e
        rw [if_pos rfl] at h0
        obtain ⟨b, v1, v2, v3⟩ := r.iv (jb l k).due
        have hbk := v2 k hkl (Int.le_refl _) hlk
        have hWk := hW _ b (Int.le_refl _) hbk
        have hle : wrk l (s.left.set k (s.left.getD k 0 - m)) (jb l k).due b ≤ sumN (fun i => if b ≤ (jb l i).ready ∧ (jb l i).due ≤ (jb l k).due then (jb l i).minutes else 0) l.length := sumN_le _ fun i hi => by
          unfold wrkF
          have h1 := hlb i hi
          rw [hg]
          split
          · by_cases e : k = i
            · subst e; rw [if_pos rfl]; omega
            · rw [if_neg e]; omega
          · exact Int.le_refl _
        obtain ⟨S, S1, S2⟩ := set_ex (x := s.now + m - b) hkl hbk (by omega)
        exact ⟨S, S1, by rw [u5]; omega⟩
      · rw [if_neg e] at h0
        rw [u4 j e]
        exact r.dq j hjl h0
theorem duesF_run {l : List Job} (hj : JobsOk l) : ∀ (f : Nat) (s : DS), DOk l s → DRun l s → meas l s ≤ f → ∃ s', DOk l s' ∧ DRun l s' ∧ stp l s' = none ∧ duesF l f s = s'.out
  | f, s, h, r, hf => by
    cases hs : stp l s with
    | none => exact ⟨s, h, r, hs, duesF_end hs f⟩
    | some s' =>
      obtain ⟨h1, h2⟩ := stp_ok hj h hs
      have r' := stp_run hj h r hs
      match f, hf with
      | 0, hf => omega
      | f + 1, hf =>
        obtain ⟨s2, a, b, c, d⟩ := duesF_run hj f s' h1 r' (by omega)
        exact ⟨s2, a, b, c, by simp only [duesF, hs]; exact d⟩
theorem dues_right {l : List Job} (hj : JobsOk l) : slE l 0 (dues l) = 0 ∧ (∀ i, i < l.length → doneJ (dues l) i = (jb l i).minutes) ∧ (dues l).length ≤ 100 ∧ ∀ j, j < l.length → ∃ S ∈ setsL l, endJ (dues l) j - (jb l j).due ≤ bndE l S := by
  obtain ⟨s, h, r, hn, he⟩ := duesF_run hj (meas l (ds0 l)) (ds0 l) (ds0_ok hj) (ds0_run hj) (Nat.le_refl _)
  have e : dues l = s.out := he
  have hz : ∀ i, i < l.length → s.left.getD i 0 = 0 := fun i hi => by
    refine Classical.byContradiction fun hne => ?_
    unfold stp at hn
    split at hn
    · rename_i h1
      split at hn
      · rename_i h2
        by_cases hrel : s.now < (jb l i).ready
        · have h3 := scan_nle (left := s.left) (now := s.now) (fun i hi => (hj.ready _ (jb_mem hi)).1) l.length (Nat.le_refl _) i hi hne hrel
          have : scan l s.left s.now l.length = scn l s := rfl
          rw [this] at h3; omega
        · have h3 := scan_has (l := l) (left := s.left) (now := s.now) hne (by omega) l.length hi
          have : scan l s.left s.now l.length = scn l s := rfl
          rw [this] at h3; omega
      · cases hn
    · cases hn
  rw [e]
  refine ⟨r.ok, fun i hi => by have := r.dn i hi; rw [hz i hi] at this; omega, ?_, fun j hjl => r.dq j hjl (hz j hjl)⟩
  have h1 := sumN_ub (f := cmplF s.left) l.length fun i _ => by unfold cmplF; split <;> omega
  have h2 := sumN_ub (f := relF l s.now) l.length fun i _ => by unfold relF; split <;> omega
  have := r.ct
  have := hj.n
  omega
/-! ### lateness -/
def latJ (l : List Job) (s : List Slot) (i : Nat) : Int := endJ s i - (jb l i).due
theorem lateL_get {l : List Job} {s : List Slot} (hs : ∀ t ∈ s, 0 ≤ t.job ∧ t.job < (l.length : Int)) {i : Nat} (hi : i < l.length) : (lateL l (endsK l.length s s.length)).getD i 0 = latJ l s i := by
  have he := endsK_get hs s.length (Nat.le_refl _) i hi
  have hl := endsK_len l.length s s.length (Nat.le_refl _)
  rw [List.take_length] at he
  have hz : i < ((endsK l.length s s.length).zip l).length := by simp; omega
  have hi2 : i < (endsK l.length s s.length).length := by omega
  rw [gd_eq hi2] at he
  simp only [lateL, List.getD_eq_getElem?_getD, List.getElem?_map, List.getElem?_eq_getElem hz, List.getElem_zip]
  rw [he, latJ, jb_eq hi]; rfl
theorem worK_max {v : List Int} : ∀ k i, i < k → v.getD i 0 ≤ v.getD (worK v k) 0
  | 0, i, hi => by omega
  | k + 1, i, hi => by
    simp only [worK]
    by_cases e : i = k
    · subst e
      split
      · exact Int.le_refl _
      · omega
    · have := worK_max (v := v) k i (by omega)
      split <;> omega
def worL (l : List Job) (s : List Slot) : Nat := worK (lateL l (endsK l.length s s.length)) l.length
def latE (l : List Job) (s : List Slot) : Int := (lateL l (endsK l.length s s.length)).getD (worL l s) 0
theorem latE_max {l : List Job} {s : List Slot} (hs : ∀ t ∈ s, 0 ≤ t.job ∧ t.job < (l.length : Int)) {i : Nat} (hi : i < l.length) : latJ l s i ≤ latE l s := by
  rw [← lateL_get hs hi]
  exact worK_max l.length i hi
theorem latE_at {l : List Job} {s : List Slot} (hs : ∀ t ∈ s, 0 ≤ t.job ∧ t.job < (l.length : Int)) (h0 : 0 < l.length) : worL l s < l.length ∧ latE l s = latJ l s (worL l s) := by
  have h1 := (worK_lt (v := lateL l (endsK l.length s s.length)) l.length).2 h0
  exact ⟨h1, lateL_get hs h1⟩
theorem slE_jobs {l : List Job} {s : List Slot} (h : slE l 0 s = 0) : ∀ t ∈ s, 0 ≤ t.job ∧ t.job < (l.length : Int) := fun t ht => by
  obtain ⟨w, hw⟩ := slE_all h t ht
  exact (slE1_ok.1 hw).1
theorem bound_late {l : List Job} (hj : JobsOk l) {s : List Slot} {S : List Int} (hS : bdErr l S = 0) (h1 : slE l 0 s = 0) (h2 : ∀ i, i < l.length → doneJ s i = (jb l i).minutes) : bndE l S ≤ latE l s := by
  obtain ⟨i, hi, hle⟩ := bound_le hj (bdErr_ok hS) h1 h2
  have := latE_max (slE_jobs h1) hi
  unfold latJ at this
  omega
theorem fstS_ok {l : List Job} (hj : JobsOk l) : bdErr l (fstS l) = 0 ∧ bndE l (fstS l) = lateE l ∧ fstS l ∈ setsL l := by
  obtain ⟨h1, h2, h3, h4⟩ := dues_right hj
  have hs := slE_jobs h1
  obtain ⟨w1, w2⟩ := latE_at hs hj.n0
  obtain ⟨S, S1, S2⟩ := h4 _ w1
  have hle := bound_late hj (setsL_ok S1) h1 h2
  have he : lateE l = latE l (dues l) := rfl
  have heq : bndE l S = lateE l := by
    rw [he]
    unfold latJ at w2
    omega
  have hf : ∃ T, (setsL l).find? (fun s => decide (bndE l s = lateE l)) = some T := by
    rw [← Option.isSome_iff_exists, List.find?_isSome]
    exact ⟨S, S1, by simpa using heq⟩
  obtain ⟨T, hT⟩ := hf
  have e : fstS l = T := by rw [fstS, hT]; rfl
  have m := List.mem_of_find?_eq_some hT
  have p := List.find?_some hT
  rw [e]
  exact ⟨setsL_ok m, by simpa using p, m⟩
end Go.Proofs.Ytaagelngbbkllaa
