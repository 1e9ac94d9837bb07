/-
  Chapter 8, walks: pairs that are kept (the table).
-/
import Derived.Test.YtenohgpackcjbaaVW1
namespace Go.Proofs.Ytenohgpackcjbaa
open Go Go.Vx
set_option linter.unusedSimpArgs false
set_option linter.unusedVariables false
set_option maxRecDepth 20000
/-- the pairs that two lists have at most. -/
def lcsA (x : Int) (f : List Int → Nat) : List Int → Nat
  | [] => 0
  | y :: b => if x = y then max (max (f (y :: b)) (lcsA x f b)) (f b + 1) else max (f (y :: b)) (lcsA x f b)
def lcsL : List Int → List Int → Nat
  | [], _ => 0
  | x :: a, b => lcsA x (lcsL a) b
theorem lcsL_nil (a : List Int) : lcsL a [] = 0 := by cases a <;> simp [lcsL, lcsA]
theorem lcsL_cons (x y : Int) (a b : List Int) : lcsL (x :: a) (y :: b) = if x = y then max (max (lcsL a (y :: b)) (lcsL (x :: a) b)) (lcsL a b + 1) else max (lcsL a (y :: b)) (lcsL (x :: a) b) := rfl
theorem lcsL_le (a : List Int) : ∀ b, lcsL a b ≤ a.length := by
  induction a with
  | nil => intro b; simp [lcsL]
  | cons x a ih =>
    intro b
    induction b with
    | nil => simp [lcsL_nil]
    | cons y b ihb =>
      rw [lcsL_cons]
      have h1 := ih (y :: b)
      have h2 := ih b
      simp only [List.length_cons] at ihb ⊢
      split <;> omega
def tl (a b : List Int) (i j : Nat) : Int := (lcsL (a.drop i) (b.drop j) : Nat)
theorem tl_end1 {a b : List Int} (j : Nat) : tl a b a.length j = 0 := by simp [tl, lcsL]
theorem tl_end2 {a b : List Int} (i : Nat) : tl a b i b.length = 0 := by simp [tl, lcsL_nil]
theorem tl_step {a b : List Int} {i j : Nat} (hi : i < a.length) (hj : j < b.length) : tl a b i j = if a[i] = b[j] then max (max (tl a b (i + 1) j) (tl a b i (j + 1))) (tl a b (i + 1) (j + 1) + 1) else max (tl a b (i + 1) j) (tl a b i (j + 1)) := by
  simp only [tl]
  rw [List.drop_eq_getElem_cons hi, List.drop_eq_getElem_cons hj, lcsL_cons]
  split <;> omega
theorem tl_b (a b : List Int) (i j : Nat) : 0 ≤ tl a b i j ∧ tl a b i j ≤ a.length := by
  have := lcsL_le (a.drop i) (b.drop j)
  simp only [List.length_drop] at this
  unfold tl; omega
/-- a row of the table -/
def rowT (a b : List Int) (i : Nat) : List Int := (List.range (b.length + 1)).map fun j => tl a b i j
/-- under way, from the end on; 'v' at place j. -/
def cT (a b : List Int) (i j : Nat) : List Int := (List.range (b.length + 1)).map fun k => if j ≤ k then tl a b i k else 0
def cV (a b : List Int) (i j : Nat) (v : Int) : List Int := (List.range (b.length + 1)).map fun k => if j < k then tl a b i k else if k = j then v else 0
theorem cT_zero (a b : List Int) (i : Nat) : cT a b i 0 = rowT a b i := by simp [cT, rowT]
theorem cT_end (a b : List Int) (i : Nat) : cT a b i b.length = List.replicate (b.length + 1) 0 := by
  apply List.ext_getElem
  · simp [cT]
  · intro k h1 h2
    simp only [cT, List.length_map, List.length_range] at h1
    simp only [cT, List.getElem_map, List.getElem_range, List.getElem_replicate]
    split
    · rw [show k = b.length by omega, tl_end2]
    · rfl
theorem cT_last (a b : List Int) : rowT a b a.length = List.replicate (b.length + 1) 0 := by
  apply List.ext_getElem
  · simp [rowT]
  · intro k h1 h2
    simp [rowT, tl_end1]
theorem cT_put (a b : List Int) (i j : Nat) (v : Int) : ((cT a b i (j + 1)).map eI).modify j (modE · 0 [.v (.int .i64 v)]) = (cV a b i j v).map eI := by
  apply List.ext_getElem
  · simp [cT, cV]
  · intro k h1 h2
    simp only [List.getElem_modify, List.getElem_map, cT, cV, List.getElem_range]
    by_cases hk : j = k
    · subst hk; simp [modE, eI]
    · rw [if_neg hk]
      by_cases h3 : j < k
      · rw [if_pos (show j + 1 ≤ k by omega), if_pos h3]
      · rw [if_neg (show ¬ j + 1 ≤ k by omega), if_neg h3, if_neg (show ¬ k = j by omega)]
theorem cV_put (a b : List Int) (i j : Nat) (u v : Int) : ((cV a b i j u).map eI).modify j (modE · 0 [.v (.int .i64 v)]) = (cV a b i j v).map eI := by
  apply List.ext_getElem
  · simp [cV]
  · intro k h1 h2
    simp only [List.getElem_modify, List.getElem_map, cV, List.getElem_range]
    by_cases hk : j = k
    · subst hk; simp [modE, eI]
    · rw [if_neg hk]
      by_cases h3 : j < k
      · rw [if_pos h3, if_pos h3]
      · rw [if_neg h3, if_neg h3, if_neg (show ¬ k = j by omega), if_neg (show ¬ k = j by omega)]
theorem cV_tl (a b : List Int) (i j : Nat) : cV a b i j (tl a b i j) = cT a b i j := by
  unfold cV cT
  apply List.map_congr_left
  intro k _
  by_cases h : j < k
  · rw [if_pos h, if_pos (by omega)]
  · rw [if_neg h]
    by_cases h2 : k = j
    · subst h2; simp
    · rw [if_neg h2, if_neg (by omega)]
theorem cT_get (a b : List Int) (i j k : Nat) (h : k < b.length + 1) (h2 : j ≤ k) : ((cT a b i j).map eI)[k]? = some (eI (tl a b i k)) := by
  rw [List.getElem?_map]
  simp [cT, List.getElem?_map, List.getElem?_range, h, h2]
theorem cV_get (a b : List Int) (i j : Nat) (v : Int) (h : j < b.length + 1) : ((cV a b i j v).map eI)[j]? = some (eI v) := by
  rw [List.getElem?_map]
  simp [cV, List.getElem?_map, List.getElem?_range, h]
theorem rowT_get (a b : List Int) (i k : Nat) (h : k < b.length + 1) : ((rowT a b i).map eI)[k]? = some (eI (tl a b i k)) := by
  rw [List.getElem?_map]
  simp [rowT, List.getElem?_map, List.getElem?_range, h]
/-- the table, with 'x' rows still to come. -/
def tabT (a b : List Int) (x : Nat) : List (List D) := (List.range (a.length + 1)).map fun r => if x ≤ r then [.sl true 1 ((rowT a b r).map eI)] else [.v (.slice none 0 0)]
theorem tabT_get {a b : List Int} {x r : Nat} (h : r < a.length + 1) : (tabT a b x)[r]? = some (if x ≤ r then [.sl true 1 ((rowT a b r).map eI)] else [.v (.slice none 0 0)]) := by
  simp [tabT, List.getElem?_map, List.getElem?_range, h]
theorem tabT_first (a b : List Int) : (List.replicate (a.length + 1) [D.v (.slice none 0 0)]).modify a.length (modE · 0 [.sl true 1 (List.replicate (b.length + 1) [.v (.int .i64 0)])]) = tabT a b a.length := by
  apply List.ext_getElem
  · simp [tabT]
  · intro k h1 h2
    simp only [List.getElem_modify, List.getElem_replicate, tabT, List.getElem_map, List.getElem_range]
    have hk : k < a.length + 1 := by simpa [tabT] using h2
    by_cases e : a.length = k
    · subst e; simp [modE, cT_last, eI]
    · rw [if_neg e, if_neg (by omega)]
theorem tabT_close {a b : List Int} {x : Nat} (hx : x < a.length) (y : List D) : (((tabT a b (x + 1)).modify x (modE · 0 y)).set x [.sl true 1 ((rowT a b x).map eI)]) = tabT a b x := by
  apply List.ext_getElem
  · simp [tabT]
  · intro k h1 h2
    simp only [List.getElem_set, List.getElem_modify, tabT, List.getElem_map, List.getElem_range]
    by_cases e : x = k
    · subst e; simp
    · rw [if_neg e, if_neg e]
      by_cases h3 : x + 1 ≤ k
      · rw [if_pos h3, if_pos (by omega)]
      · rw [if_neg h3, if_neg (by omega)]
set_option maxHeartbeats 8000000 in
theorem tails_s (b1 b2 : Bool) (a b : List Int) (ha : a.length ≤ 1000) (hb : b.length ≤ 1000) : Ctr Try.prog 91 [.sl b1 1 (a.map eI), .sl b2 1 (b.map eI)] (fun rr => rr = ⟨.sl true 1 (tabT a b 0), []⟩) := by
  refine Ctr.of (rs := [.tmp 4]) Tok true Try.func91 rfl rfl rfl rfl (by simp [ofDL]) (fun w0 kp => ?_)
  simp only [↓sx0, sx1, encs, tys, sxR, sevalprocAttr]
  repeat ((with_reducible refine Vc.go ?_ fun _ => ?_); (focus (first | omega | (simp only [InK]; omega) | (simp [InK]; done) | (simp [InK]; omega))); simp only [↓sx0, sx1, encs, tys, sxR, sevalprocAttr])
  have e1 : ((a.length : Int) + 1).toNat = a.length + 1 := by omega
  have e2 : ((b.length : Int) + 1).toNat = b.length + 1 := by omega
  simp only [e1, e2, Int.toNat_natCast, tabT_first]
  refine LoopW.le StLe.arm ?_
  refine LoopW.comp [0, 1, 5, 6, 1000000] (by simp only [sx2, encs, sxR, sevalprocAttr] <;> (try simp) <;> (try omega)) ?_
  simp only [sx2, sxR, sevalprocAttr]
  refine LoopW.up Tok (fun x : Nat => [(6, (.v (.int .i64 ((x : Int) - 1))))]) (fun x => []) (fun x => [(0, tabT a b x)]) (fun x => []) (fun x => x ≤ a.length) (fun x => x) (a.length) (by simp only [sx2, encs, sxR, sevalprocAttr] <;> (try simp) <;> (try omega)) ?_ ?_
  · omega
  rintro x hx
  simp only [↓sx0, sx1, encs, tys, sxR, sevalprocAttr]
  refine BrW.dec (fun hlt => ?_) (fun hlt => ?_)
  · simp only [↓sx0, sx1, encs, tys, sxR, sevalprocAttr]
    obtain ⟨i, rfl⟩ : ∃ i, x = i + 1 := ⟨x - 1, by omega⟩
    have e3 : (((i + 1 : Nat) : Int) - 1) = (i : Int) := by omega
    rw [e3]
    have hia : i < a.length := by omega
    have htl : (tabT a b (i + 1)).length = a.length + 1 := by simp [tabT]
    repeat ((with_reducible refine Vc.go ?_ fun _ => ?_); (focus (first | omega | (simp only [InK]; omega) | (simp [InK]; done) | (simp [InK]; omega))); simp only [↓sx0, sx1, encs, tys, sxR, sevalprocAttr])
    intro ad n0 c0
    repeat ((with_reducible refine Vc.go ?_ fun _ => ?_); (focus (first | omega | (simp only [InK]; omega) | (simp [InK]; done) | (simp [InK]; omega))); simp only [↓sx0, sx1, encs, tys, sxR, sevalprocAttr])
    have er : List.replicate ((b.length : Int) + 1).toNat [D.v (.int .i64 0)] = (cT a b i b.length).map eI := by rw [e2, cT_end]; simp [eI]
    rw [er, Int.toNat_natCast]
    have hE0 : ((tabT a b (i + 1)).modify i fun x => modE x 0 [D.v (.slice (some ad) n0 c0)])[i]? = some [D.v (.slice (some ad) n0 c0)] := by
      rw [List.getElem?_modify, tabT_get (by omega), if_neg (by omega)]; simp [modE]
    have hE1 : ((tabT a b (i + 1)).modify i fun x => modE x 0 [D.v (.slice (some ad) n0 c0)])[i + 1]? = some [D.sl true 1 ((rowT a b (i + 1)).map eI)] := by
      rw [List.getElem?_modify, tabT_get (by omega)]; simp
    have hEl : ((tabT a b (i + 1)).modify i fun x => modE x 0 [D.v (.slice (some ad) n0 c0)]).length = a.length + 1 := by simp [tabT]
    have hEc := tabT_close (a := a) (b := b) hia [D.v (.slice (some ad) n0 c0)]
    generalize ((tabT a b (i + 1)).modify i fun x => modE x 0 [D.v (.slice (some ad) n0 c0)]) = E at hE0 hE1 hEl hEc ⊢
    refine LoopW.comp [0, 1, 5, 6, 7, 1000000] (by simp only [sx2, encs, sxR, sevalprocAttr] <;> (try simp) <;> (try omega)) ?_
    simp only [sx2, sxR, sevalprocAttr]
    refine LoopW.up Tok (fun j : Nat => [(7, (.v (.int .i64 ((j : Int) - 1))))]) (fun j => []) (fun j => [(1, (cT a b i j).map eI)]) (fun j => []) (fun j => j ≤ b.length) (fun j => j) (b.length) (by simp only [sx2, encs, sxR, sevalprocAttr] <;> (try simp) <;> (try omega)) ?_ ?_
    · omega
    rintro j hj
    simp only [↓sx0, sx1, encs, tys, sxR, sevalprocAttr]
    refine BrW.dec (fun hlt2 => ?_) (fun hlt2 => ?_)
    · simp only [↓sx0, sx1, encs, tys, sxR, sevalprocAttr]
      obtain ⟨q, rfl⟩ : ∃ q, j = q + 1 := ⟨j - 1, by omega⟩
      have e4 : (((q + 1 : Nat) : Int) - 1) = (q : Int) := by omega
      rw [e4]
      have hqb : q < b.length := by omega
      refine DrawW.plan Tok mixed (.q 0 <| .q 1 <| .q 2 <| .q 3 <| .q 4 <| .q 5 <| .q 6 <| .q 7 <| .q 8 <| .q 9 <| .q 10 <| .q 11 <| .q 12 <| .q 13 <| .q 14 <| .q 15 <| .q 16 <| .q 17 <| .q 18 <| .q 19 <| .q 20 <| .q 21 <| .q 22 <| .e 23 [] <| .done) (by kernel_rfl) (by kernel_rfl) ?_
      simp only [↓sx0, sx1, encs, tys, sxR, sevalprocAttr]
      repeat ((with_reducible refine Vc.go ?_ fun _ => ?_); (focus (first | omega | (simp only [InK]; omega) | (simp [cT, cV, InK]; done) | (simp [cT, cV, InK]; omega))); simp only [↓sx0, sx1, encs, tys, sxR, sevalprocAttr])
      refine ⟨by omega, _, (by rw [Int.toNat_natCast]; exact hE0), ?_⟩
      simp only [↓sx0, sx1, encs, tys, sxR, sevalprocAttr]
      repeat ((with_reducible refine Vc.go ?_ fun _ => ?_); (focus (first | omega | (simp only [InK]; omega) | (simp [cT, cV, InK]; done) | (simp [cT, cV, InK]; omega))); simp only [↓sx0, sx1, encs, tys, sxR, sevalprocAttr])
      refine ⟨by omega, _, (by rw [show ((i : Int) + 1).toNat = i + 1 by omega]; exact hE1), ?_⟩
      simp only [↓sx0, sx1, encs, tys, sxR, sevalprocAttr]
      refine ⟨by omega, _, (by rw [Int.toNat_natCast]; exact rowT_get a b (i + 1) q (by omega)), ?_⟩
      simp only [↓sx0, sx1, encs, tys, sxR, sevalprocAttr]
      repeat ((with_reducible refine Vc.go ?_ fun _ => ?_); (focus (first | omega | (simp only [InK]; omega) | (simp [cT, cV, InK]; done) | (simp [cT, cV, InK]; omega))); simp only [↓sx0, sx1, encs, tys, sxR, sevalprocAttr])
      refine ⟨by omega, _, (by rw [Int.toNat_natCast]; exact hE0), ?_⟩
      simp only [↓sx0, sx1, encs, tys, sxR, sevalprocAttr]
      repeat ((with_reducible refine Vc.go ?_ fun _ => ?_); (focus (first | omega | (simp only [InK]; omega) | (simp [cT, cV, InK]; done) | (simp [cT, cV, InK]; omega))); simp only [↓sx0, sx1, encs, tys, sxR, sevalprocAttr])
      refine ⟨by omega, _, (by rw [show ((q : Int) + 1).toNat = q + 1 by omega]; exact cT_get a b i (q + 1) (q + 1) (by omega) (by omega)), ?_⟩
      simp only [↓sx0, sx1, encs, tys, sxR, sevalprocAttr]
      repeat ((with_reducible refine Vc.go ?_ fun _ => ?_); (focus (first | omega | (simp only [InK]; omega) | (simp [cT, cV, InK]; done) | (simp [cT, cV, InK]; omega))); simp only [↓sx0, sx1, encs, tys, sxR, sevalprocAttr])
      rw [Int.toNat_natCast, cT_put]
      have hst := tl_step hia hqb
      have hb1 := tl_b a b (i + 1) (q + 1)
      refine DrawW.plan Tok mixed (.q 0 <| .q 1 <| .q 2 <| .q 3 <| .q 4 <| .q 5 <| .q 6 <| .q 7 <| .q 8 <| .done) (by kernel_rfl) (by kernel_rfl) ?_
      simp only [↓sx0, sx1, encs, tys, sxR, sevalprocAttr]
      refine IxW.nat hia ?_
      simp only [↓sx0, sx1, encs, tys, sxR, sevalprocAttr]
      refine IxW.nat hqb ?_
      simp only [↓sx0, sx1, encs, tys, sxR, sevalprocAttr]
      refine BrW.dec (fun heq => ?_) (fun heq => ?_)
      · rw [if_pos heq] at hst
        simp only [↓sx0, sx1, encs, tys, sxR, sevalprocAttr]
        refine DrawW.plan Tok mixed (.q 0 <| .q 1 <| .q 2 <| .q 3 <| .q 4 <| .q 5 <| .q 6 <| .q 7 <| .q 8 <| .q 9 <| .q 10 <| .q 11 <| .q 12 <| .q 13 <| .q 14 <| .q 15 <| .q 16 <| .q 17 <| .q 18 <| .q 19 <| .q 20 <| .q 21 <| .q 22 <| .q 23 <| .e 24 [] <| .done) (by kernel_rfl) (by kernel_rfl) ?_
        simp only [↓sx0, sx1, encs, tys, sxR, sevalprocAttr]
        repeat ((with_reducible refine Vc.go ?_ fun _ => ?_); (focus (first | omega | (simp only [InK]; omega) | (simp [cT, cV, InK]; done) | (simp [cT, cV, InK]; omega))); simp only [↓sx0, sx1, encs, tys, sxR, sevalprocAttr])
        refine ⟨by omega, _, (by rw [Int.toNat_natCast]; exact hE0), ?_⟩
        simp only [↓sx0, sx1, encs, tys, sxR, sevalprocAttr]
        repeat ((with_reducible refine Vc.go ?_ fun _ => ?_); (focus (first | omega | (simp only [InK]; omega) | (simp [cT, cV, InK]; done) | (simp [cT, cV, InK]; omega))); simp only [↓sx0, sx1, encs, tys, sxR, sevalprocAttr])
        refine ⟨by omega, _, (by rw [Int.toNat_natCast]; exact hE0), ?_⟩
        simp only [↓sx0, sx1, encs, tys, sxR, sevalprocAttr]
        repeat ((with_reducible refine Vc.go ?_ fun _ => ?_); (focus (first | omega | (simp only [InK]; omega) | (simp [cT, cV, InK]; done) | (simp [cT, cV, InK]; omega))); simp only [↓sx0, sx1, encs, tys, sxR, sevalprocAttr])
        refine ⟨by omega, _, (by rw [Int.toNat_natCast]; exact cV_get a b i q _ (by omega)), ?_⟩
        simp only [↓sx0, sx1, encs, tys, sxR, sevalprocAttr]
        repeat ((with_reducible refine Vc.go ?_ fun _ => ?_); (focus (first | omega | (simp only [InK]; omega) | (simp [cT, cV, InK]; done) | (simp [cT, cV, InK]; omega))); simp only [↓sx0, sx1, encs, tys, sxR, sevalprocAttr])
        refine ⟨by omega, _, (by rw [show ((i : Int) + 1).toNat = i + 1 by omega]; exact hE1), ?_⟩
        simp only [↓sx0, sx1, encs, tys, sxR, sevalprocAttr]
        repeat ((with_reducible refine Vc.go ?_ fun _ => ?_); (focus (first | omega | (simp only [InK]; omega) | (simp [cT, cV, InK]; done) | (simp [cT, cV, InK]; omega))); simp only [↓sx0, sx1, encs, tys, sxR, sevalprocAttr])
        refine ⟨by omega, _, (by rw [show ((q : Int) + 1).toNat = q + 1 by omega]; exact rowT_get a b (i + 1) (q + 1) (by omega)), ?_⟩
        simp only [↓sx0, sx1, encs, tys, sxR, sevalprocAttr]
        repeat ((with_reducible refine Vc.go ?_ fun _ => ?_); (focus (first | omega | (simp only [InK]; omega) | (simp [cT, cV, InK]; done) | (simp [cT, cV, InK]; omega))); simp only [↓sx0, sx1, encs, tys, sxR, sevalprocAttr])
        rw [Int.toNat_natCast, cV_put, ← hst, cV_tl]
        repeat ((with_reducible refine Vc.go ?_ fun _ => ?_); (focus (first | omega | (simp only [InK]; omega) | (simp [InK]; done) | (simp [InK]; omega))); simp only [↓sx0, sx1, encs, tys, sxR, sevalprocAttr])
        refine ⟨q, StLe.auto (by simp only [sx2, encs, sxR, sevalprocAttr] <;> (try simp) <;> (try omega)), ?_, ?_⟩
        all_goals omega
      · rw [if_neg heq] at hst
        rw [← hst, cV_tl]
        simp only [↓sx0, sx1, encs, tys, sxR, sevalprocAttr]
        repeat ((with_reducible refine Vc.go ?_ fun _ => ?_); (focus (first | omega | (simp only [InK]; omega) | (simp [InK]; done) | (simp [InK]; omega))); simp only [↓sx0, sx1, encs, tys, sxR, sevalprocAttr])
        refine ⟨q, StLe.auto (by simp only [sx2, encs, sxR, sevalprocAttr] <;> (try simp) <;> (try omega)), ?_, ?_⟩
        all_goals omega
    · simp only [↓sx0, sx1, encs, tys, sxR, sevalprocAttr]
      have hj0 : j = 0 := by omega
      subst hj0
      rw [cT_zero]
      repeat ((with_reducible refine Vc.go ?_ fun _ => ?_); (focus (first | omega | (simp only [InK]; omega) | (simp [InK]; done) | (simp [InK]; omega))); simp only [↓sx0, sx1, encs, tys, sxR, sevalprocAttr])
      refine ⟨i, StLe.trans (StLe.close (k := 1) (s := 1) (ks := (rowT a b i).map eI) (r := 0) (e' := 62) (s' := 1) (els := E) (i := i) (c := 0) (el := [D.v (.slice (some ad) n0 c0)]) ⟨_, _, rfl, rfl, by decide, rfl, by decide, by decide, hE0, rfl⟩) (StLe.trans StLe.arm (StLe.auto (by simp only [sx2, encs, sxR, sevalprocAttr] <;> (try simp) <;> (try omega)))), ?_, ?_⟩
      all_goals omega
  · simp only [↓sx0, sx1, encs, tys, sxR, sevalprocAttr]
    have hx0 : x = 0 := by omega
    subst hx0
    have hkp : kpLL (tabT a b 0) := by rw [kpLL_all]; intro e he; obtain ⟨r, _, rfl⟩ := List.mem_map.1 he; simp [kpL, kpD, kpLL_map, eI]
    exact EndW.fn (by simp only [sx4, encs, kpLL_map, sxR, sevalprocAttr] <;> (try simp [hkp]) <;> (try omega)) (by simp only [sx4, encs, kpLL_map, sxR, sevalprocAttr] <;> (try simp) <;> (try omega))
end Go.Proofs.Ytenohgpackcjbaa
