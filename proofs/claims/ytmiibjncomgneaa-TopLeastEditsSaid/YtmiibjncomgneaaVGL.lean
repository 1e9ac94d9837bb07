/-
 Chapter 8, walks: edits are checked (reference), the least cost (reference).
-/
import Derived.Test.YtmiibjncomgneaaVGK
namespace Go.Proofs.Ytmiibjncomgneaa
open Go Go.Vx
set_option linter.unusedSimpArgs false
set_option linter.unusedVariables false
set_option maxRecDepth 20000
end Go.Proofs.Ytmiibjncomgneaa
/-
 Chapter 8, walks: the least cost (reference).
-/
namespace Go.Proofs.Ytmiibjncomgneaa
open Go Go.Vx
set_option linter.unusedSimpArgs false
set_option linter.unusedVariables false
set_option maxRecDepth 20000
def dRow (a b : List ByteArray) (i : Nat) : List Int := (List.range (b.length + 1)).map fun k => dst a b i k
def nRow (a b : List ByteArray) (i j : Nat) : List Int := (List.range (b.length + 1)).map fun k => if k ≤ j then dst a b (i + 1) k else 0
def kRow (n j : Nat) : List Int := (List.range (n + 1)).map fun k => if k < j then (k : Int) else 0
end Go.Proofs.Ytmiibjncomgneaa
/-
 Chapter 8, walks: the least edits, what they cost.
-/
namespace Go.Proofs.Ytmiibjncomgneaa
open Go Go.Vx
set_option linter.unusedSimpArgs false
set_option linter.unusedVariables false
set_option maxRecDepth 20000
def lsE (a b : List ByteArray) : List Ed := (edB a b (a.length + b.length) a.length b.length).reverse
theorem find_mem {α : Type} {p : α → Bool} {l : List α} {x : α} (h : l.find? p = some x) : x ∈ l ∧ p x = true := ⟨List.mem_of_find?_eq_some h, List.find?_some h⟩
theorem nx_i {i m : Nat} (h : i < m) : nxOk (i : Int) i m = true := by simp [nxOk, h]
theorem nx_m (i m : Nat) : nxOk (-1) i m = true := by simp [nxOk]
/-- the edits lead from the beginning to a place, at its least cost. -/
theorem edB_run (a b : List ByteArray) : ∀ (f i k : Nat), i ≤ a.length → k ≤ b.length → i + k ≤ f → ∀ t, edF a b ((edB a b f i k).reverse ++ t) 0 0 0 = edF a b t i k (dst a b i k).toNat
 | 0, i, k, hi, hk, hf, t => by
  have h1 : i = 0 := by omega
  have h2 : k = 0 := by omega
  subst h1 h2
  simp [edB, dst]
 | f + 1, i, k, hi, hk, hf, t => by
  by_cases hz : i = 0 ∧ k = 0
  ·obtain ⟨rfl, rfl⟩ := hz
   simp [edB, dst]
  ·obtain ⟨p, hp, hfp⟩ := fit_ex a b i k hz
   cases hfd : (stN a b i k).find? (fitB a b i k) with
   | none =>
    rw [List.find?_eq_none] at hfd
    exact absurd hfp (by simpa using hfd p hp)
   | some q =>
    obtain ⟨h1, h2⟩ := find_mem hfd
    have hb := stN_mem h1
    obtain ⟨⟨p1, p2⟩, c⟩ := q
    simp only at hb
    have hstep : edB a b (f + 1) i k = edOf i k ((p1, p2), c) :: edB a b f p1 p2 := by rw [edB, if_neg hz, hfd]
    rw [hstep, List.reverse_cons, List.append_assoc]
    rw [edB_run a b f p1 p2 (by omega) (by omega) (by omega)]
    rw [fitB, decide_eq_true_eq] at h2
    simp only at h2
    have hd1 := dst_b a b p1 p2
    have hd2 := dst_b a b i k
    rw [List.singleton_append, edF]
    -- which step it is
    unfold stN at h1
    simp only [List.mem_append] at h1
    rcases h1 with h1 | h1 | h1
    ·by_cases hh : 0 < i ∧ 0 < k
     ·rw [if_pos hh] at h1
      simp only [List.mem_singleton, Prod.mk.injEq] at h1
      obtain ⟨⟨rfl, rfl⟩, hc⟩ := h1
      have ho : edOf i k ((i - 1, k - 1), c) = ⟨((i - 1 : Nat) : Int), ((k - 1 : Nat) : Int)⟩ := by rw [edOf]; simp only; rw [if_neg (by omega), if_neg (by omega)]
      rw [ho]
      rw [if_neg (by simp only; omega), if_pos ⟨nx_i (by omega), nx_i (by omega)⟩]
      rw [show nxI ((i - 1 : Nat) : Int) (i - 1) = i by rw [nxI, if_neg (by omega)]; omega, show nxI ((k - 1 : Nat) : Int) (k - 1) = k by rw [nxI, if_neg (by omega)]; omega]
      congr 1
      have he : ((edC a b ⟨((i - 1 : Nat) : Int), ((k - 1 : Nat) : Int)⟩ (i - 1) (k - 1) : Nat) : Int) = c := by
       rw [hc]; unfold edC; simp only
       by_cases hab : a[i - 1]? = b[k - 1]?
       ·rw [if_neg (by simp [hab]), if_pos hab]; rfl
       ·rw [if_pos (.inr (.inr hab)), if_neg hab]; rfl
      omega
     ·rw [if_neg hh] at h1; cases h1
    ·by_cases hh : 0 < i
     ·rw [if_pos hh] at h1
      simp only [List.mem_singleton, Prod.mk.injEq] at h1
      obtain ⟨⟨rfl, rfl⟩, rfl⟩ := h1
      have ho : edOf i p2 ((i - 1, p2), 1) = ⟨((i - 1 : Nat) : Int), -1⟩ := by rw [edOf]; simp only; rw [if_neg (by omega), if_pos trivial]
      rw [ho]
      rw [if_neg (by simp only; omega), if_pos ⟨nx_i (by omega), nx_m _ _⟩]
      rw [show nxI ((i - 1 : Nat) : Int) (i - 1) = i by rw [nxI, if_neg (by omega)]; omega, show nxI (-1) p2 = p2 by rw [nxI, if_pos rfl]]
      congr 1
      have he : edC a b ⟨((i - 1 : Nat) : Int), -1⟩ (i - 1) p2 = 1 := by rw [edC, if_pos (.inr (.inl rfl))]
      omega
     ·rw [if_neg hh] at h1; cases h1
    ·by_cases hh : 0 < k
     ·rw [if_pos hh] at h1
      simp only [List.mem_singleton, Prod.mk.injEq] at h1
      obtain ⟨⟨rfl, rfl⟩, rfl⟩ := h1
      have ho : edOf p1 k ((p1, k - 1), 1) = ⟨-1, ((k - 1 : Nat) : Int)⟩ := by rw [edOf]; simp only; rw [if_pos trivial, if_neg (by omega)]
      rw [ho]
      rw [if_neg (by simp only; omega), if_pos ⟨nx_m _ _, nx_i (by omega)⟩]
      rw [show nxI (-1) p1 = p1 by rw [nxI, if_pos rfl], show nxI ((k - 1 : Nat) : Int) (k - 1) = k by rw [nxI, if_neg (by omega)]; omega]
      congr 1
      have he : edC a b ⟨-1, ((k - 1 : Nat) : Int)⟩ p1 (k - 1) = 1 := by rw [edC, if_pos (.inl rfl)]
      omega
     ·rw [if_neg hh] at h1; cases h1
theorem lsE_cost (a b : List ByteArray) : edF a b (lsE a b) 0 0 0 = (dst a b a.length b.length, 0) := by
 have h := edB_run a b (a.length + b.length) a.length b.length (Nat.le_refl _) (Nat.le_refl _) (Nat.le_refl _) []
 rw [List.append_nil] at h
 rw [lsE, h, edF, if_pos ⟨rfl, rfl⟩]
 have := dst_b a b a.length b.length
 congr 1
 omega
theorem edB_len (a b : List ByteArray) : ∀ (f i k : Nat), (edB a b f i k).length ≤ i + k
 | 0, i, k => by simp [edB]
 | f + 1, i, k => by
  unfold edB
  split
  ·simp
  ·split
   ·rename_i p hp
    have := stN_mem (find_mem hp).1
    have h := edB_len a b f p.1.1 p.1.2
    simp only [List.length_cons]
    omega
   ·simp
theorem lsE_len (a b : List ByteArray) : (lsE a b).length ≤ a.length + b.length := by rw [lsE, List.length_reverse]; exact edB_len _ _ _ _ _
theorem labR_dL {a b : List ByteArray} (ha : a.length ≤ 40) (hb : b.length ≤ 40) : labR a b (dL a b (nLab a b)) = (dst a b a.length b.length, 0) := by
 have hl := dL_len a b (nLab a b)
 have hn : (dL a b (nLab a b)).length = (a.length + 1) * (b.length + 1) := hl
 have hm := Nat.mul_le_mul_right (b.length + 1) (show a.length + 1 ≤ 41 by omega)
 have hv := dL_v (a := a) (b := b) (n := nLab a b) hb hm
 have hr : (dL a b (nLab a b)).any badL = false := by
  rw [List.any_eq_false]
  intro x hx
  have := hv x hx
  simp [badL]; omega
 have hat : ∀ i k, i ≤ a.length → k ≤ b.length → atN b.length i k < nLab a b := fun i k h1 h2 => atN_lt h1 h2
 have hok : labOk a b (dL a b (nLab a b)) = true := by
  unfold labOk rowsOk
  rw [range_all]
  intro i hi
  rw [range_all]
  intro k hk
  unfold rowOk
  rw [decide_eq_true_eq, dL_get (by omega) (hat i k (by omega) (by omega)), bd_dst (by omega) (by omega) hb (Nat.le_of_lt (hat i k (by omega) (by omega)))]
  exact Int.le_refl _
 rw [lab_ref hn hv] at hok
 have hlast := lab_last a.length b.length
 rw [labR, if_pos hn, if_neg (by rw [hr]; simp), if_pos hok, hn, show (a.length + 1) * (b.length + 1) - 1 = atN b.length a.length b.length by omega, dL_get (Nat.le_refl _) (hat _ _ (Nat.le_refl _) (Nat.le_refl _))]
def lsV (a b : List ByteArray) : List Ed × List Int × Int := if wdsErr a b = 0 then (lsE a b, dL a b (nLab a b), 0) else ([], [], wdsErr a b)
theorem wds_len {a b : List ByteArray} (he : wdsErr a b = 0) : a.length ≤ 40 ∧ b.length ≤ 40 := by
 unfold wdsErr at he
 split at he
 ·assumption
 ·omega
theorem leastEdits_s (a b : List ByteArray) (ha : AllSz a) (hb : AllSz b) : Ctr Try.prog 11 [.sl true 1 (a.map eS), .sl true 1 (b.map eS)] (fun rr => rr = ⟨.tup [.sl true 2 ((lsV a b).1.map eE), .sl true 1 ((lsV a b).2.1.map eI), (.v (.int .i64 ((lsV a b).2.2)))], []⟩) := by
 have encs := And.intro encs (show ∀ b1 b2 a b, gV b1 b2 a b = .agg [.sl b1 1 (a.map eS), .sl b2 1 (b.map eS)] from fun _ _ _ _ => rfl)
 refine Ctr.of (rs := [.tmp 4, .tmp 5, .tmp 6]) Tok true Try.func11 rfl rfl rfl rfl (by simp [ofDL]) (fun w0 kp => ?_)
 simp only [↓sx0, sxE, encs, sevalprocAttr]
 refine CallI.fn (checkWords_s true true a b ha hb) (by simp only [sx3, encs, sxR, sevalprocAttr] <;> (try simp) <;> (try rfl)) ?_
 simp only [↓sx0, sxE, encs, sevalprocAttr]
 refine BrW.dec (fun he => ?_) (fun he => ?_)
 ·rw [show lsV a b = ([], [], wdsErr a b) by rw [lsV, if_neg he]]
  simp only [↓sx0, sxE, encs, sevalprocAttr]
  refine EndW.fn ?_ ?_ <;> simp only [sx4, encs, kpLL_map, sxR, sevalprocAttr] <;> (try simp) <;> (try omega)
 ·have he := Decidable.not_not.1 he
  obtain ⟨h1, h2⟩ := wds_len he
  have hes := edits_s a b h1 h2
  rw [show lsV a b = ((edB a b (a.length + b.length) a.length b.length).reverse, dL a b (nLab a b), 0) by rw [lsV, if_pos he]; rfl]
  simp only [↓sx0, sxE, encs, sevalprocAttr]
  refine CallI.fn (labels_s a b h1 h2) (by simp only [sx3, encs, sxR, sevalprocAttr] <;> (try simp) <;> (try rfl)) ?_
  simp only [↓sx0, sxE, encs, sevalprocAttr]
  refine CallI.fn (hes) (by simp only [sx3, encs, sxR, sevalprocAttr] <;> (try simp) <;> (try rfl)) ?_
  simp only [↓sx0, sxE, encs, sevalprocAttr]
  refine EndW.fn ?_ ?_ <;> simp only [sx4, encs, kpLL_map, sxR, sevalprocAttr] <;> (try simp) <;> (try omega)
end Go.Proofs.Ytmiibjncomgneaa
