/-
 Chapter 8, walks: edits are checked (reference), the least cost (reference).
-/
import Derived.Test.YtenohgpackcjbaaVGK
namespace Go.Proofs.Ytenohgpackcjbaa
open Go Go.Vx
set_option linter.unusedSimpArgs false
set_option linter.unusedVariables false
set_option maxRecDepth 20000
end Go.Proofs.Ytenohgpackcjbaa
/-
 Chapter 8, walks: the least cost (reference).
-/
namespace Go.Proofs.Ytenohgpackcjbaa
open Go Go.Vx
set_option linter.unusedSimpArgs false
set_option linter.unusedVariables false
set_option maxRecDepth 20000
def dRow (a b : List ByteArray) (i : Nat) : List Int := (List.range (b.length + 1)).map fun k => dst a b i k
def nRow (a b : List ByteArray) (i j : Nat) : List Int := (List.range (b.length + 1)).map fun k => if k ≤ j then dst a b (i + 1) k else 0
def kRow (n j : Nat) : List Int := (List.range (n + 1)).map fun k => if k < j then (k : Int) else 0
theorem dst_i0 (a b : List ByteArray) : ∀ i, dst a b i 0 = i
 | 0 => by simp [dst]
 | i + 1 => by rw [dst, dst_i0 a b i]; omega
theorem dst_0k (a b : List ByteArray) : ∀ k, dst a b 0 k = k
 | 0 => by simp [dst]
 | k + 1 => by rw [dst, dst_0k a b k]; omega
theorem kRow_put (n j : Nat) : ((kRow n j).map eI).modify j (modE · 0 [.v (.int .i64 (j : Int))]) = (kRow n (j + 1)).map eI := by
 apply List.ext_getElem
 ·simp [kRow]
 ·intro k h1 h2
  simp only [List.getElem_modify, List.getElem_map, kRow, List.getElem_range]
  by_cases hk : j = k
  ·subst hk; simp [modE, eI]
  ·rw [if_neg hk]
   by_cases h3 : k < j
   ·rw [if_pos h3, if_pos (by omega)]
   ·rw [if_neg h3, if_neg (by omega)]
theorem kRow_zero (n : Nat) : kRow n 0 = List.replicate (n + 1) 0 := by
 apply List.ext_getElem
 ·simp [kRow]
 ·intro k h1 h2; simp [kRow]
theorem kRow_all (a b : List ByteArray) : kRow b.length (b.length + 1) = dRow a b 0 := by
 apply List.ext_getElem
 ·simp [kRow, dRow]
 ·intro k h1 h2
  have hk : k < b.length + 1 := by simpa [kRow] using h1
  simp only [kRow, dRow, List.getElem_map, List.getElem_range]
  rw [if_pos hk, dst_0k]
theorem nRow_put {a b : List ByteArray} {i j : Nat} {v : Int} (hv : v = dst a b (i + 1) (j + 1)) : ((nRow a b i j).map eI).modify (j + 1) (modE · 0 [.v (.int .i64 v)]) = (nRow a b i (j + 1)).map eI := by
 apply List.ext_getElem
 ·simp [nRow]
 ·intro k h1 h2
  simp only [List.getElem_modify, List.getElem_map, nRow, List.getElem_range]
  by_cases hk : j + 1 = k
  ·subst hk; simp [modE, eI, hv]
  ·rw [if_neg hk]
   by_cases h3 : k ≤ j
   ·rw [if_pos h3, if_pos (by omega)]
   ·rw [if_neg h3, if_neg (by omega)]
theorem nRow_first {a b : List ByteArray} {i : Nat} {v : Int} (hv : v = dst a b (i + 1) 0) : (List.replicate (b.length + 1) [D.v (.int .i64 0)]).modify 0 (modE · 0 [.v (.int .i64 v)]) = (nRow a b i 0).map eI := by
 apply List.ext_getElem
 ·simp [nRow]
 ·intro k h1 h2
  simp only [List.getElem_modify, List.getElem_map, nRow, List.getElem_range, List.getElem_replicate]
  by_cases hk : 0 = k
  ·subst hk; simp [modE, eI, hv]
  ·rw [if_neg hk, if_neg (by omega)]; rfl
theorem nRow_all (a b : List ByteArray) (i : Nat) : nRow a b i b.length = dRow a b (i + 1) := by
 apply List.ext_getElem
 ·simp [nRow, dRow]
 ·intro k h1 h2
  have hk : k < b.length + 1 := by simpa [nRow] using h1
  simp only [nRow, dRow, List.getElem_map, List.getElem_range]
  rw [if_pos (by omega)]
theorem dRow_get {a b : List ByteArray} {i k : Nat} (hk : k ≤ b.length) : ((dRow a b i).map eI)[k]? = some (eI (dst a b i k)) := by
 simp [dRow, List.getElem?_map, List.getElem?_range, show k < b.length + 1 by omega]
theorem nRow_get {a b : List ByteArray} {i j k : Nat} (hk : k ≤ b.length) (h : k ≤ j) : ((nRow a b i j).map eI)[k]? = some (eI (dst a b (i + 1) k)) := by
 simp [nRow, List.getElem?_map, List.getElem?_range, show k < b.length + 1 by omega, h]
set_option maxHeartbeats 16000000 in
theorem least_s (b1 b2 : Bool) (a b : List ByteArray) (hla : a.length ≤ 40) (hlb : b.length ≤ 40) : Ctr Try.prog 47 [.sl b1 1 (a.map eS), .sl b2 1 (b.map eS)] (fun rr => rr = ⟨(.v (.int .i64 (dst a b a.length b.length))), []⟩) := by
 refine Ctr.of (rs := [.tmp 4]) Tok true Try.func47 rfl rfl rfl rfl (by simp [ofDL]) (fun w0 kp => ?_)
 simp only [↓sx0, sxE, encs, sevalprocAttr]
 repeat ((with_reducible refine Vc.go ?_ fun _ => ?_); (focus (first | omega | (simp only [InK]; omega) | (simp [InK]; done) | (simp [InK]; omega))); simp only [↓sx0, sxE, encs, sevalprocAttr])
 have e2 : ((b.length : Int) + 1).toNat = b.length + 1 := by omega
 have er : List.replicate ((b.length : Int) + 1).toNat [D.v (.int .i64 0)] = (kRow b.length 0).map eI := by rw [e2, kRow_zero]; simp [eI]
 simp only [e2] at er ⊢
 rw [er]
 refine LoopW.comp [0, 1, 5, 6] (by simp only [sx2, encs, sxR, sevalprocAttr] <;> (try simp) <;> (try omega)) ?_
 simp only [sx2, sxR, sevalprocAttr]
 refine LoopW.up Tok (fun j : Nat => [(6, (.v (.int .i64 j)))]) (fun j => []) (fun j => [(0, (kRow b.length j).map eI)]) (fun j => []) (fun j => j ≤ b.length + 1) (fun j => b.length + 1 - j) (0) (by simp only [sx2, encs, sxR, sevalprocAttr] <;> (try simp) <;> (try omega)) ?_ ?_
 ·omega
 rintro j hj
 simp only [↓sx0, sxE, encs, sevalprocAttr]
 refine BrW.dec (fun hlt => ?_) (fun hlt => ?_)
 ·simp only [↓sx0, sxE, encs, sevalprocAttr]
  repeat ((with_reducible refine Vc.go ?_ fun _ => ?_); (focus (first | omega | (simp only [InK]; omega) | (simp [kRow, InK]; done) | (simp [kRow, InK]; omega))); simp only [↓sx0, sxE, encs, sevalprocAttr])
  rw [Int.toNat_natCast, kRow_put]
  repeat ((with_reducible refine Vc.go ?_ fun _ => ?_); (focus (first | omega | (simp only [InK]; omega) | (simp [InK]; done) | (simp [InK]; omega))); simp only [↓sx0, sxE, encs, sevalprocAttr])
  refine ⟨j + 1, StLe.auto (by simp only [sx2, encs, sxR, sevalprocAttr] <;> (try simp) <;> (try omega)), ?_, ?_⟩
  ·omega
  ·omega
 ·have hje : j = b.length + 1 := by omega
  subst hje
  rw [kRow_all a b]
  simp only [↓sx0, sxE, encs, sevalprocAttr]
  refine LoopW.comp [0, 1, 5, 7] (by simp only [sx2, encs, sxR, sevalprocAttr] <;> (try simp) <;> (try omega)) ?_
  simp only [sx2, sxR, sevalprocAttr]
  refine LoopW.up Tok (fun i : Nat => [(5, .row 0), (7, (.v (.int .i64 i)))]) (fun i => []) (fun i => [(0, (dRow a b i).map eI)]) (fun i => []) (fun i => i ≤ a.length) (fun i => a.length - i) (0) (by simp only [sx2, encs, sxR, sevalprocAttr] <;> (try simp) <;> (try omega)) ?_ ?_
  ·omega
  rintro i hi
  simp only [↓sx0, sxE, encs, sevalprocAttr]
  refine BrW.dec (fun hlt2 => ?_) (fun hlt2 => ?_)
  ·simp only [↓sx0, sxE, encs, sevalprocAttr]
   repeat ((with_reducible refine Vc.go ?_ fun _ => ?_); (focus (first | omega | (simp only [InK]; omega) | (simp [InK]; done) | (simp [InK]; omega))); simp only [↓sx0, sxE, encs, sevalprocAttr])
   have hfi := nRow_first (a := a) (b := b) (i := i) (v := (i : Int) + 1) (by rw [dst_i0]; omega)
   simp only [e2, Int.toNat_zero]
   rw [hfi]
   refine LoopW.comp [0, 1, 5, 7, 8, 9] (by simp only [sx2, encs, sxR, sevalprocAttr] <;> (try simp) <;> (try omega)) ?_
   simp only [sx2, sxR, sevalprocAttr]
   refine LoopW.up Tok (fun j : Nat => [(9, (.v (.int .i64 j)))]) (fun j => []) (fun j => [(1, (nRow a b i j).map eI)]) (fun j => []) (fun j => j ≤ b.length) (fun j => b.length - j) (0) (by simp only [sx2, encs, sxR, sevalprocAttr] <;> (try simp) <;> (try omega)) ?_ ?_
   ·omega
   rintro j hj
   simp only [↓sx0, sxE, encs, sevalprocAttr]
   refine BrW.dec (fun hlt3 => ?_) (fun hlt3 => ?_)
   ·simp only [↓sx0, sxE, encs, sevalprocAttr]
    have hia : i < a.length := by omega
    have hjb : j < b.length := by omega
    have hcs := change_s b1 b2 a b i j hia hjb
    have d1 := dst_b a b i (j + 1)
    have d2 := dst_b a b (i + 1) j
    have d3 := dst_b a b i j
    have d4 := chN_b a b i j
    have hl1 : (dRow a b i).length = b.length + 1 := by simp [dRow]
    have hl2 : (nRow a b i j).length = b.length + 1 := by simp [nRow]
    have hdd : dst a b (i + 1) (j + 1) = min (min (dst a b i j + chN a b i j) (dst a b i (j + 1) + 1)) (dst a b (i + 1) j + 1) := by rw [dst]
    have ej : ((j : Int) + 1).toNat = j + 1 := by omega
    refine DrawW.plan Tok mixed (.q 0 <| .q 1 <| .q 2 <| .q 3 <| .q 4 <| .q 5 <| .q 6 <| .q 7 <| .q 8 <| .q 9 <| .q 10 <| .q 11 <| .q 12 <| .q 13 <| .q 14 <| .q 15 <| .q 16 <| .q 17 <| .q 18 <| .q 19 <| .q 20 <| .q 21 <| .e 22 [7, 12, 17] <| .q 23 <| .q 24 <| .q 25 <| .e 26 [] <| .done) (by kernel_rfl) (by kernel_rfl) ?_
    simp only [↓sx0, sxE, encs, sevalprocAttr]
    repeat ((with_reducible refine Vc.go ?_ fun _ => ?_); (focus (first | omega | (simp only [InK]; omega) | (simp [InK]; done) | (simp [InK]; omega))); simp only [↓sx0, sxE, encs, sevalprocAttr])
    refine ⟨by omega, _, (by rw [ej]; exact dRow_get (by omega)), ?_⟩
    simp only [↓sx0, sxE, encs, sevalprocAttr]
    repeat ((with_reducible refine Vc.go ?_ fun _ => ?_); (focus (first | omega | (simp only [InK]; omega) | (simp [InK]; done) | (simp [InK]; omega))); simp only [↓sx0, sxE, encs, sevalprocAttr])
    refine ⟨by omega, _, (by rw [Int.toNat_natCast]; exact nRow_get (by omega) (by omega)), ?_⟩
    simp only [↓sx0, sxE, encs, sevalprocAttr]
    repeat ((with_reducible refine Vc.go ?_ fun _ => ?_); (focus (first | omega | (simp only [InK]; omega) | (simp [InK]; done) | (simp [InK]; omega))); simp only [↓sx0, sxE, encs, sevalprocAttr])
    refine ⟨by omega, _, (by rw [Int.toNat_natCast]; exact dRow_get (by omega)), ?_⟩
    simp only [↓sx0, sxE, encs, sevalprocAttr]
    refine CallI.fn (hcs) (by simp only [sx3, encs, sxR, sevalprocAttr] <;> (try simp) <;> (try rfl)) ?_
    simp only [↓sx0, sxE, encs, sevalprocAttr]
    repeat ((with_reducible refine Vc.go ?_ fun _ => ?_); (focus (first | omega | (simp only [InK]; omega) | (simp [InK]; done) | (simp [InK]; omega))); simp only [↓sx0, sxE, encs, sevalprocAttr])
    rw [ej, nRow_put (by rw [hdd]; omega)]
    repeat ((with_reducible refine Vc.go ?_ fun _ => ?_); (focus (first | omega | (simp only [InK]; omega) | (simp [InK]; done) | (simp [InK]; omega))); simp only [↓sx0, sxE, encs, sevalprocAttr])
    refine ⟨j + 1, StLe.auto (by simp only [sx2, encs, sxR, sevalprocAttr] <;> (try simp) <;> (try omega)), ?_, ?_⟩
    ·omega
    ·omega
   ·have hje : j = b.length := by omega
    subst hje
    rw [nRow_all]
    simp only [↓sx0, sxE, encs, sevalprocAttr]
    repeat ((with_reducible refine Vc.go ?_ fun _ => ?_); (focus (first | omega | (simp only [InK]; omega) | (simp [InK]; done) | (simp [InK]; omega))); simp only [↓sx0, sxE, encs, sevalprocAttr])
    refine ⟨i + 1, StLe.auto (by simp only [sx2, encs, sxR, sevalprocAttr] <;> (try simp) <;> (try omega)), ?_, ?_⟩
    ·omega
    ·omega
  ·have hie : i = a.length := by omega
   subst hie
   simp only [↓sx0, sxE, encs, sevalprocAttr]
   have hl1 : (dRow a b a.length).length = b.length + 1 := by simp [dRow]
   repeat ((with_reducible refine Vc.go ?_ fun _ => ?_); (focus (first | omega | (simp only [InK]; omega) | (simp [InK]; done) | (simp [InK]; omega))); simp only [↓sx0, sxE, encs, sevalprocAttr])
   refine ⟨by omega, _, (by rw [Int.toNat_natCast]; exact dRow_get (by omega)), ?_⟩
   simp only [↓sx0, sxE, encs, sevalprocAttr]
   refine EndW.fn ?_ ?_ <;> simp only [sx4, encs, kpLL_map, sxR, sevalprocAttr] <;> (try simp) <;> (try omega)
end Go.Proofs.Ytenohgpackcjbaa
/-
 Chapter 8, walks: the least edits, what they cost.
-/
namespace Go.Proofs.Ytenohgpackcjbaa
open Go Go.Vx
set_option linter.unusedSimpArgs false
set_option linter.unusedVariables false
set_option maxRecDepth 20000
def lsE (a b : List ByteArray) : List Ed := (edB a b (a.length + b.length) a.length b.length).reverse
theorem find_mem {α : Type} {p : α → Bool} {l : List α} {x : α} (h : l.find? p = some x) : x ∈ l ∧ p x = true := ⟨List.mem_of_find?_eq_some h, List.find?_some h⟩
theorem nx_i {i m : Nat} (h : i < m) : nxOk (i : Int) i m = true := by simp [nxOk, h]
theorem nx_m (i m : Nat) : nxOk (-1) i m = true := by simp [nxOk]
/-- the edits lead from the beginning to a place, at its least cost. -/
theorem edB_run (a b : List ByteArray) : ∀ (f i k : Nat), i ≤ a.length → k ≤ b.length → i + k ≤ f → ∀ t, edF a b ((edB a b f i k).reverse ++ t) 0 0 0 = edF a b t i k (dst a b i k).toNat
 | 0, i, k, hi, hk, hf, t => by
  have h1 : i = 0 := by omega
  have h2 : k = 0 := by omega
  subst h1 h2
  simp [edB, dst]
 | f + 1, i, k, hi, hk, hf, t => by
  by_cases hz : i = 0 ∧ k = 0
  ·obtain ⟨rfl, rfl⟩ := hz
   simp [edB, dst]
  ·obtain ⟨p, hp, hfp⟩ := fit_ex a b i k hz
   cases hfd : (stN a b i k).find? (fitB a b i k) with
   | none =>
    rw [List.find?_eq_none] at hfd
    exact absurd hfp (by simpa using hfd p hp)
   | some q =>
    obtain ⟨h1, h2⟩ := find_mem hfd
    have hb := stN_mem h1
    obtain ⟨⟨p1, p2⟩, c⟩ := q
    simp only at hb
    have hstep : edB a b (f + 1) i k = edOf i k ((p1, p2), c) :: edB a b f p1 p2 := by rw [edB, if_neg hz, hfd]
    rw [hstep, List.reverse_cons, List.append_assoc]
    rw [edB_run a b f p1 p2 (by omega) (by omega) (by omega)]
    rw [fitB, decide_eq_true_eq] at h2
    simp only at h2
    have hd1 := dst_b a b p1 p2
    have hd2 := dst_b a b i k
    rw [List.singleton_append, edF]
    -- which step it is
    unfold stN at h1
    simp only [List.mem_append] at h1
    rcases h1 with h1 | h1 | h1
    ·by_cases hh : 0 < i ∧ 0 < k
     ·rw [if_pos hh] at h1
      simp only [List.mem_singleton, Prod.mk.injEq] at h1
      obtain ⟨⟨rfl, rfl⟩, hc⟩ := h1
      have ho : edOf i k ((i - 1, k - 1), c) = ⟨((i - 1 : Nat) : Int), ((k - 1 : Nat) : Int)⟩ := by rw [edOf]; simp only; rw [if_neg (by omega), if_neg (by omega)]
      rw [ho]
      rw [if_neg (by simp only; omega), if_pos ⟨nx_i (by omega), nx_i (by omega)⟩]
      rw [show nxI ((i - 1 : Nat) : Int) (i - 1) = i by rw [nxI, if_neg (by omega)]; omega, show nxI ((k - 1 : Nat) : Int) (k - 1) = k by rw [nxI, if_neg (by omega)]; omega]
      congr 1
      have he : ((edC a b ⟨((i - 1 : Nat) : Int), ((k - 1 : Nat) : Int)⟩ (i - 1) (k - 1) : Nat) : Int) = c := by
       rw [hc]; unfold edC; simp only
       by_cases hab : a[i - 1]? = b[k - 1]?
       ·rw [if_neg (by simp [hab]), if_pos hab]; rfl
       ·rw [if_pos (.inr (.inr hab)), if_neg hab]; rfl
      omega
     ·rw [if_neg hh] at h1; cases h1
    ·by_cases hh : 0 < i
     ·rw [if_pos hh] at h1
      simp only [List.mem_singleton, Prod.mk.injEq] at h1
      obtain ⟨⟨rfl, rfl⟩, rfl⟩ := h1
      have ho : edOf i p2 ((i - 1, p2), 1) = ⟨((i - 1 : Nat) : Int), -1⟩ := by rw [edOf]; simp only; rw [if_neg (by omega), if_pos trivial]
      rw [ho]
      rw [if_neg (by simp only; omega), if_pos ⟨nx_i (by omega), nx_m _ _⟩]
      rw [show nxI ((i - 1 : Nat) : Int) (i - 1) = i by rw [nxI, if_neg (by omega)]; omega, show nxI (-1) p2 = p2 by rw [nxI, if_pos rfl]]
      congr 1
      have he : edC a b ⟨((i - 1 : Nat) : Int), -1⟩ (i - 1) p2 = 1 := by rw [edC, if_pos (.inr (.inl rfl))]
      omega
     ·rw [if_neg hh] at h1; cases h1
    ·by_cases hh : 0 < k
     ·rw [if_pos hh] at h1
      simp only [List.mem_singleton, Prod.mk.injEq] at h1
      obtain ⟨⟨rfl, rfl⟩, rfl⟩ := h1
      have ho : edOf p1 k ((p1, k - 1), 1) = ⟨-1, ((k - 1 : Nat) : Int)⟩ := by rw [edOf]; simp only; rw [if_pos trivial, if_neg (by omega)]
      rw [ho]
      rw [if_neg (by simp only; omega), if_pos ⟨nx_m _ _, nx_i (by omega)⟩]
      rw [show nxI (-1) p1 = p1 by rw [nxI, if_pos rfl], show nxI ((k - 1 : Nat) : Int) (k - 1) = k by rw [nxI, if_neg (by omega)]; omega]
      congr 1
      have he : edC a b ⟨-1, ((k - 1 : Nat) : Int)⟩ p1 (k - 1) = 1 := by rw [edC, if_pos (.inl rfl)]
      omega
     ·rw [if_neg hh] at h1; cases h1
theorem lsE_cost (a b : List ByteArray) : edF a b (lsE a b) 0 0 0 = (dst a b a.length b.length, 0) := by
 have h := edB_run a b (a.length + b.length) a.length b.length (Nat.le_refl _) (Nat.le_refl _) (Nat.le_refl _) []
 rw [List.append_nil] at h
 rw [lsE, h, edF, if_pos ⟨rfl, rfl⟩]
 have := dst_b a b a.length b.length
 congr 1
 omega
theorem edB_len (a b : List ByteArray) : ∀ (f i k : Nat), (edB a b f i k).length ≤ i + k
 | 0, i, k => by simp [edB]
 | f + 1, i, k => by
  unfold edB
  split
  ·simp
  ·split
   ·rename_i p hp
    have := stN_mem (find_mem hp).1
    have h := edB_len a b f p.1.1 p.1.2
    simp only [List.length_cons]
    omega
   ·simp
theorem lsE_len (a b : List ByteArray) : (lsE a b).length ≤ a.length + b.length := by rw [lsE, List.length_reverse]; exact edB_len _ _ _ _ _
def lsV (a b : List ByteArray) : List Ed × List Int × Int := if wdsErr a b = 0 then (lsE a b, dL a b (nLab a b), 0) else ([], [], wdsErr a b)
theorem wds_len {a b : List ByteArray} (he : wdsErr a b = 0) : a.length ≤ 40 ∧ b.length ≤ 40 := by
 unfold wdsErr at he
 split at he
 ·assumption
 ·omega
end Go.Proofs.Ytenohgpackcjbaa
