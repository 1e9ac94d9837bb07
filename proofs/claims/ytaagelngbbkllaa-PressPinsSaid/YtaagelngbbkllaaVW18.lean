/-
  Chapter 9, walks: lateness; the bound of a set.
-/
import Derived.Test.YtaagelngbbkllaaVW17
namespace Go.Proofs.Ytaagelngbbkllaa
open Go Go.Vx
set_option linter.unusedSimpArgs false
set_option linter.unusedVariables false
set_option maxRecDepth 20000
theorem modI (l : List Int) (i : Nat) (v : Int) : (l.map eI).modify i (fun x => modE x 0 [.v (.int .i64 v)]) = (l.set i v).map eI := by
  induction l generalizing i with
  | nil => simp
  | cons a l ih =>
    cases i with
    | zero => simp [modE, eI]
    | succ i => simpa using ih i
theorem repI (n : Nat) : List.replicate n [D.v (.int .i64 0)] = (List.replicate n (0 : Int)).map eI := by simp [eI]
theorem repI2 (n : Nat) : List.replicate ((n : Int)).toNat [D.v (.int .i64 0)] = (List.replicate n (0 : Int)).map eI := by simp [eI]
/-- Jobs of a right kind. -/
structure JobsOk (l : List Job) : Prop where
  n0 : 0 < l.length
  n : l.length ≤ 20
  ready : ∀ j ∈ l, 0 ≤ j.ready ∧ j.ready ≤ 10000000
  due : ∀ j ∈ l, 0 ≤ j.due ∧ j.due ≤ 10000000
  minutes : ∀ j ∈ l, 1 ≤ j.minutes ∧ j.minutes ≤ 10000
theorem jobsE_zero : ∀ {l : List Job} {s : List ByteArray}, jobsE s l = 0 → ∀ j ∈ l, nmF j = true
  | [], _, _, j, h => absurd h (List.not_mem_nil)
  | x :: l, s, h, j, hj => by
    simp only [jobsE] at h
    split at h
    · cases h
    · split at h
      · cases h
      · split at h
        · cases h
        · rename_i h3
          rcases List.mem_cons.1 hj with rfl | hj
          · simpa using h3
          · exact jobsE_zero h j hj
theorem jobsErr_ok {l : List Job} (h : jobsErr l = 0) : JobsOk l := by
  unfold jobsErr at h
  split at h
  · cases h
  · rename_i h1
    split at h
    · cases h
    · rename_i h2
      have key := jobsE_zero h
      have k2 : ∀ j ∈ l, (0 ≤ j.ready ∧ j.ready ≤ 10000000) ∧ (0 ≤ j.due ∧ j.due ≤ 10000000) ∧ (1 ≤ j.minutes ∧ j.minutes ≤ 10000) := fun j hj => by
        have := key j hj
        simp only [nmF, Bool.and_eq_true, decide_eq_true_eq] at this
        exact ⟨this.1.1, this.1.2, this.2⟩
      exact ⟨by omega, by omega, fun j hj => (k2 j hj).1, fun j hj => (k2 j hj).2.1, fun j hj => (k2 j hj).2.2⟩
def SlOk (n : Nat) (t : Slot) : Prop := (0 ≤ t.job ∧ t.job < (n : Int)) ∧ (0 ≤ t.start ∧ t.start ≤ 1000000000) ∧ (0 ≤ t.minutes ∧ t.minutes ≤ 1000000000)
def endsK (n : Nat) (l : List Slot) (k : Nat) : List Int := (l.take k).foldl (fun e t => e.set t.job.toNat (t.start + t.minutes)) (List.replicate n 0)
theorem endsK_succ {n : Nat} {l : List Slot} {k : Nat} (h : k < l.length) : endsK n l (k + 1) = (endsK n l k).set l[k].job.toNat (l[k].start + l[k].minutes) := by
  unfold endsK
  rw [List.take_succ_eq_append_getElem h, List.foldl_append]; rfl
theorem endsK_len (n : Nat) (l : List Slot) : ∀ k, k ≤ l.length → (endsK n l k).length = n
  | 0, _ => by simp [endsK]
  | k + 1, h => by rw [endsK_succ h, List.length_set]; exact endsK_len n l k (by omega)
theorem endsK_b {n : Nat} {l : List Slot} (hl : ∀ t ∈ l, SlOk n t) : ∀ k, k ≤ l.length → ∀ e ∈ endsK n l k, 0 ≤ e ∧ e ≤ 2000000000
  | 0, _, e, he => by
    simp [endsK] at he; omega
  | k + 1, h, e, he => by
    rw [endsK_succ h] at he
    rcases List.mem_or_eq_of_mem_set he with he | rfl
    · exact endsK_b hl k (by omega) e he
    · have := hl _ (List.getElem_mem h)
      unfold SlOk at this; omega
/-- how late each job is. -/
def lateL (l : List Job) (e : List Int) : List Int := (e.zip l).map fun p => p.1 - p.2.due
def worK (v : List Int) : Nat → Nat
  | 0 => 0
  | k + 1 => if v.getD (worK v k) 0 < v.getD k 0 then k else worK v k
theorem worK_lt {v : List Int} : ∀ k, worK v k ≤ k ∧ (0 < k → worK v k < k)
  | 0 => ⟨Nat.le_refl _, fun h => absurd h (Nat.lt_irrefl _)⟩
  | k + 1 => by
    have := worK_lt (v := v) k
    simp only [worK]
    split <;> omega
def lateV (l : List Job) (s : List Slot) : SV := .tup [(.v (.int .i64 ((lateL l (endsK l.length s s.length)).getD (worK (lateL l (endsK l.length s s.length)) l.length) 0))), (.v (.int .i64 (worK (lateL l (endsK l.length s s.length)) l.length)))]
theorem lateness_s (b1 b2 : Bool) (l : List Job) (s : List Slot) (h : JobsOk l) (hs : ∀ t ∈ s, SlOk l.length t) (hsl : s.length ≤ 1000000000) : Ctr Try.prog 96 [.sl b1 4 (l.map eJ), .sl b2 3 (s.map eT)] (fun rr => rr = ⟨lateV l s, []⟩) := by
  have hn0 := h.n0
  have hn := h.n
  have encs0 := encs
  have encs := And.intro encs (And.intro repI repI2)
  refine Ctr.of (rs := [.tmp 4, .tmp 5]) Tok true Try.func96 rfl rfl rfl rfl (by simp [ofDL]) (fun w0 kp => ?_)
  simp only [↓sxD, ↓sxP0, ↓sxP3, ↓sxGd, sxP1, sxF, sxA, sxS, sxK, sxG, sxZ, sxH, sxU, encs, tys, sxN, sevalprocAttr, ne_eq, decide_true, decide_false]
  repeat ((with_reducible refine Vc.go ?_ fun _ => ?_); (focus (first | omega | (simp only [InK]; omega) | (simp [InK]; done) | (simp [InK]; omega))); simp only [↓sxD, ↓sxP0, ↓sxP3, ↓sxGd, sxP1, sxF, sxA, sxS, sxK, sxG, sxZ, sxH, sxU, encs, tys, sxN, sevalprocAttr, ne_eq, decide_true, decide_false])
  replace encs := encs0
  refine LoopW.comp [0, 6, 15, 16, 17] (by simp only [sxS, sxL, sxF, sxG, sxH, sxU, encs, sxN, sevalprocAttr, ne_eq, decide_true, decide_false] <;> (try simp) <;> (try omega)) ?_
  simp only [sxS, sxF, sxG, sxH, sxU, sxN, sevalprocAttr, ne_eq, decide_true, decide_false]
  refine LoopW.up Tok (fun k : Nat => [(17, (.v (.int .i64 k)))]) (fun k => []) (fun k => [(0, (endsK l.length s k).map eI)]) (fun k => []) (fun k => k ≤ s.length) (fun k => s.length - k) (0) (by simp only [sxS, sxL, sxF, sxG, sxH, sxU, encs, sxN, sevalprocAttr, ne_eq, decide_true, decide_false] <;> (try simp [endsK, encs]) <;> (try omega)) ?_ ?_
  · omega
  rintro k hk
  simp only [↓sxD, ↓sxP0, ↓sxP3, ↓sxGd, sxP1, sxF, sxA, sxS, sxK, sxG, sxZ, sxH, sxU, encs, tys, sxN, sevalprocAttr, ne_eq, decide_true, decide_false]
  refine BrW.dec (fun hlt => ?_) (fun hlt => ?_)
  · simp only [↓sxD, ↓sxP0, ↓sxP3, ↓sxGd, sxP1, sxF, sxA, sxS, sxK, sxG, sxZ, sxH, sxU, encs, tys, sxN, sevalprocAttr, ne_eq, decide_true, decide_false]
    have hlt : k < s.length := by omega
    refine IxW.nat hlt ?_
    have ho := hs _ (List.getElem_mem hlt)
    unfold SlOk at ho
    have hel := endsK_len l.length s k hk
    simp only [↓sxD, ↓sxP0, ↓sxP3, ↓sxGd, sxP1, sxF, sxA, sxS, sxK, sxG, sxZ, sxH, sxU, encs, tys, sxN, sevalprocAttr, ne_eq, decide_true, decide_false]
    repeat ((with_reducible refine Vc.go ?_ fun _ => ?_); (focus (first | omega | (simp only [InK]; omega) | (simp [InK]; done) | (simp [InK]; omega))); simp only [↓sxD, ↓sxP0, ↓sxP3, ↓sxGd, sxP1, sxF, sxA, sxS, sxK, sxG, sxZ, sxH, sxU, encs, tys, sxN, sevalprocAttr, ne_eq, decide_true, decide_false])
    refine ⟨k + 1, StLe.auto (by simp only [sxS, sxL, sxF, sxG, sxH, sxU, encs, sxN, sevalprocAttr, ne_eq, decide_true, decide_false] <;> (try simp [endsK_succ hlt, modI, encs]) <;> (try omega)), ?_, ?_⟩
    · omega
    · omega
  · simp only [↓sxD, ↓sxP0, ↓sxP3, ↓sxGd, sxP1, sxF, sxA, sxS, sxK, sxG, sxZ, sxH, sxU, encs, tys, sxN, sevalprocAttr, ne_eq, decide_true, decide_false]
    have hke : k = s.length := by omega
    subst hke
    have hel := endsK_len l.length s s.length (Nat.le_refl _)
    have heb := endsK_b hs s.length (Nat.le_refl _)
    have hV : lateV l s = .tup [(.v (.int .i64 ((lateL l (endsK l.length s s.length)).getD (worK (lateL l (endsK l.length s s.length)) l.length) 0))), (.v (.int .i64 (worK (lateL l (endsK l.length s s.length)) l.length)))] := rfl
    rw [hV]
    clear hV
    generalize endsK l.length s s.length = E at *
    have hVk : ∀ k (h1 : k < E.length) (h2 : k < l.length), (lateL l E).getD k 0 = E[k] - l[k].due := fun k h1 h2 => by
      have hz : k < (E.zip l).length := by simp; omega
      simp only [lateL, List.getD_eq_getElem?_getD, List.getElem?_map, List.getElem?_eq_getElem hz, List.getElem_zip]; rfl
    generalize lateL l E = V at *
    refine LoopW.comp [0, 6, 9, 31, 32, 33] (by simp only [sxS, sxL, sxF, sxG, sxH, sxU, encs, sxN, sevalprocAttr, ne_eq, decide_true, decide_false] <;> (try simp) <;> (try omega)) ?_
    simp only [sxS, sxF, sxG, sxH, sxU, sxN, sevalprocAttr, ne_eq, decide_true, decide_false]
    refine LoopW.up Tok (fun k : Nat => [(9, (.v (.int .i64 (worK V k)))), (33, (.v (.int .i64 k)))]) (fun k => []) (fun k => []) (fun k => []) (fun k => k ≤ l.length) (fun k => l.length - k) (0) (by simp only [sxS, sxL, sxF, sxG, sxH, sxU, encs, sxN, sevalprocAttr, ne_eq, decide_true, decide_false] <;> (try simp [worK, encs]) <;> (try omega)) ?_ ?_
    · omega
    rintro k hk
    simp only [↓sxD, ↓sxP0, ↓sxP3, ↓sxGd, sxP1, sxF, sxA, sxS, sxK, sxG, sxZ, sxH, sxU, encs, tys, sxN, sevalprocAttr, ne_eq, decide_true, decide_false]
    refine BrW.dec (fun hlt => ?_) (fun hlt => ?_)
    · simp only [↓sxD, ↓sxP0, ↓sxP3, ↓sxGd, sxP1, sxF, sxA, sxS, sxK, sxG, sxZ, sxH, sxU, encs, tys, sxN, sevalprocAttr, ne_eq, decide_true, decide_false]
      have hlt : k < l.length := by omega
      have hw : worK V k < l.length := by have := worK_lt (v := V) k; omega
      have hEk : k < E.length := by omega
      have hEw : worK V k < E.length := by omega
      refine IxW.nat hlt ?_
      simp only [↓sxD, ↓sxP0, ↓sxP3, ↓sxGd, sxP1, sxF, sxA, sxS, sxK, sxG, sxZ, sxH, sxU, encs, tys, sxN, sevalprocAttr, ne_eq, decide_true, decide_false]
      have bk := heb _ (List.getElem_mem hEk)
      have bw := heb _ (List.getElem_mem hEw)
      have dk := h.due _ (List.getElem_mem hlt)
      have dw := h.due _ (List.getElem_mem hw)
      refine DrawW.plan Tok mixed (.q 0 <| .q 1 <| .q 2 <| .q 3 <| .q 4 <| .q 5 <| .q 6 <| .q 7 <| .q 8 <| .q 9 <| .q 10 <| .q 11 <| .q 12 <| .q 13 <| .q 14 <| .q 15 <| .q 16 <| .q 17 <| .done) (by kernel_rfl) (by kernel_rfl) ?_
      simp only [↓sxD, ↓sxP0, ↓sxP3, ↓sxGd, sxP1, sxF, sxA, sxS, sxK, sxG, sxZ, sxH, sxU, encs, tys, sxN, sevalprocAttr, ne_eq, decide_true, decide_false]
      repeat ((with_reducible refine Vc.go ?_ fun _ => ?_); (focus (first | omega | (simp only [InK]; omega) | (simp [InK]; done) | (simp [InK]; omega))); simp only [↓sxD, ↓sxP0, ↓sxP3, ↓sxGd, sxP1, sxF, sxA, sxS, sxK, sxG, sxZ, sxH, sxU, encs, tys, sxN, sevalprocAttr, ne_eq, decide_true, decide_false])
      refine IxW.nat hEk ?_
      simp only [↓sxD, ↓sxP0, ↓sxP3, ↓sxGd, sxP1, sxF, sxA, sxS, sxK, sxG, sxZ, sxH, sxU, encs, tys, sxN, sevalprocAttr, ne_eq, decide_true, decide_false]
      repeat ((with_reducible refine Vc.go ?_ fun _ => ?_); (focus (first | omega | (simp only [InK]; omega) | (simp [InK]; done) | (simp [InK]; omega))); simp only [↓sxD, ↓sxP0, ↓sxP3, ↓sxGd, sxP1, sxF, sxA, sxS, sxK, sxG, sxZ, sxH, sxU, encs, tys, sxN, sevalprocAttr, ne_eq, decide_true, decide_false])
      refine IxW.nat hEw ?_
      simp only [↓sxD, ↓sxP0, ↓sxP3, ↓sxGd, sxP1, sxF, sxA, sxS, sxK, sxG, sxZ, sxH, sxU, encs, tys, sxN, sevalprocAttr, ne_eq, decide_true, decide_false]
      refine IxW.nat hw ?_
      simp only [↓sxD, ↓sxP0, ↓sxP3, ↓sxGd, sxP1, sxF, sxA, sxS, sxK, sxG, sxZ, sxH, sxU, encs, tys, sxN, sevalprocAttr, ne_eq, decide_true, decide_false]
      repeat ((with_reducible refine Vc.go ?_ fun _ => ?_); (focus (first | omega | (simp only [InK]; omega) | (simp [InK]; done) | (simp [InK]; omega))); simp only [↓sxD, ↓sxP0, ↓sxP3, ↓sxGd, sxP1, sxF, sxA, sxS, sxK, sxG, sxZ, sxH, sxU, encs, tys, sxN, sevalprocAttr, ne_eq, decide_true, decide_false])
      have v1 := hVk k hEk hlt
      have v2 := hVk (worK V k) hEw hw
      refine BrW.dec (fun hgt => ?_) (fun hgt => ?_)
      · have he : worK V (k + 1) = k := by simp only [worK]; rw [if_pos (by omega)]
        simp only [↓sxD, ↓sxP0, ↓sxP3, ↓sxGd, sxP1, sxF, sxA, sxS, sxK, sxG, sxZ, sxH, sxU, encs, tys, sxN, sevalprocAttr, ne_eq, decide_true, decide_false]
        repeat ((with_reducible refine Vc.go ?_ fun _ => ?_); (focus (first | omega | (simp only [InK]; omega) | (simp [InK]; done) | (simp [InK]; omega))); simp only [↓sxD, ↓sxP0, ↓sxP3, ↓sxGd, sxP1, sxF, sxA, sxS, sxK, sxG, sxZ, sxH, sxU, encs, tys, sxN, sevalprocAttr, ne_eq, decide_true, decide_false])
        refine ⟨k + 1, StLe.auto (by simp only [sxS, sxL, sxF, sxG, sxH, sxU, encs, sxN, sevalprocAttr, ne_eq, decide_true, decide_false] <;> (try simp [he, encs]) <;> (try omega)), ?_, ?_⟩
        · omega
        · omega
      · have he : worK V (k + 1) = worK V k := by simp only [worK]; rw [if_neg (by omega)]
        simp only [↓sxD, ↓sxP0, ↓sxP3, ↓sxGd, sxP1, sxF, sxA, sxS, sxK, sxG, sxZ, sxH, sxU, encs, tys, sxN, sevalprocAttr, ne_eq, decide_true, decide_false]
        repeat ((with_reducible refine Vc.go ?_ fun _ => ?_); (focus (first | omega | (simp only [InK]; omega) | (simp [InK]; done) | (simp [InK]; omega))); simp only [↓sxD, ↓sxP0, ↓sxP3, ↓sxGd, sxP1, sxF, sxA, sxS, sxK, sxG, sxZ, sxH, sxU, encs, tys, sxN, sevalprocAttr, ne_eq, decide_true, decide_false])
        refine ⟨k + 1, StLe.auto (by simp only [sxS, sxL, sxF, sxG, sxH, sxU, encs, sxN, sevalprocAttr, ne_eq, decide_true, decide_false] <;> (try simp [he, encs]) <;> (try omega)), ?_, ?_⟩
        · omega
        · omega
    · simp only [↓sxD, ↓sxP0, ↓sxP3, ↓sxGd, sxP1, sxF, sxA, sxS, sxK, sxG, sxZ, sxH, sxU, encs, tys, sxN, sevalprocAttr, ne_eq, decide_true, decide_false]
      have hke : k = l.length := by omega
      subst hke
      have hw : worK V l.length < l.length := (worK_lt l.length).2 hn0
      have hEw : worK V l.length < E.length := by omega
      have bw := heb _ (List.getElem_mem hEw)
      have dw := h.due _ (List.getElem_mem hw)
      have v2 := hVk (worK V l.length) hEw hw
      refine DrawW.plan Tok mixed (.q 0 <| .q 1 <| .q 2 <| .q 3 <| .q 4 <| .q 5 <| .q 6 <| .q 7 <| .q 8 <| .q 9 <| .q 10 <| .q 11 <| .q 12 <| .done) (by kernel_rfl) (by kernel_rfl) ?_
      simp only [↓sxD, ↓sxP0, ↓sxP3, ↓sxGd, sxP1, sxF, sxA, sxS, sxK, sxG, sxZ, sxH, sxU, encs, tys, sxN, sevalprocAttr, ne_eq, decide_true, decide_false]
      repeat ((with_reducible refine Vc.go ?_ fun _ => ?_); (focus (first | omega | (simp only [InK]; omega) | (simp [InK]; done) | (simp [InK]; omega))); simp only [↓sxD, ↓sxP0, ↓sxP3, ↓sxGd, sxP1, sxF, sxA, sxS, sxK, sxG, sxZ, sxH, sxU, encs, tys, sxN, sevalprocAttr, ne_eq, decide_true, decide_false])
      refine IxW.nat hEw ?_
      simp only [↓sxD, ↓sxP0, ↓sxP3, ↓sxGd, sxP1, sxF, sxA, sxS, sxK, sxG, sxZ, sxH, sxU, encs, tys, sxN, sevalprocAttr, ne_eq, decide_true, decide_false]
      refine IxW.nat hw ?_
      simp only [↓sxD, ↓sxP0, ↓sxP3, ↓sxGd, sxP1, sxF, sxA, sxS, sxK, sxG, sxZ, sxH, sxU, encs, tys, sxN, sevalprocAttr, ne_eq, decide_true, decide_false]
      repeat ((with_reducible refine Vc.go ?_ fun _ => ?_); (focus (first | omega | (simp only [InK]; omega) | (simp [InK]; done) | (simp [InK]; omega))); simp only [↓sxD, ↓sxP0, ↓sxP3, ↓sxGd, sxP1, sxF, sxA, sxS, sxK, sxG, sxZ, sxH, sxU, encs, tys, sxN, sevalprocAttr, ne_eq, decide_true, decide_false])
      rw [v2]
      exact EndW.fn (by simp only [sxL, sxG, sxH, sxU, encs, kpLL_map, sxN, sevalprocAttr, ne_eq, decide_true, decide_false] <;> (try simp) <;> (try omega)) (by simp only [sxL, sxG, sxH, sxU, encs, kpLL_map, sxN, sevalprocAttr, ne_eq, decide_true, decide_false] <;> (try simp) <;> (try omega))
/-- the bound of a set: the first that is ready, the minutes, the last that is due. -/
def bndK (l : List Job) (s : List Int) (k : Nat) : Int × Int × Int := (s.take k).foldl (fun a i => (min a.1 (l.getD i.toNat ⟨⟨#[]⟩, 0, 0, 0⟩).ready, a.2.1 + (l.getD i.toNat ⟨⟨#[]⟩, 0, 0, 0⟩).minutes, max a.2.2 (l.getD i.toNat ⟨⟨#[]⟩, 0, 0, 0⟩).due)) ((l.getD (s.getD 0 0).toNat ⟨⟨#[]⟩, 0, 0, 0⟩).ready, 0, (l.getD (s.getD 0 0).toNat ⟨⟨#[]⟩, 0, 0, 0⟩).due)
def bndE (l : List Job) (s : List Int) : Int := (bndK l s s.length).1 + (bndK l s s.length).2.1 - (bndK l s s.length).2.2
theorem bndK_succ {l : List Job} {s : List Int} {k : Nat} (h : k < s.length) (hj : s[k].toNat < l.length) : bndK l s (k + 1) = (min (bndK l s k).1 l[s[k].toNat].ready, (bndK l s k).2.1 + l[s[k].toNat].minutes, max (bndK l s k).2.2 l[s[k].toNat].due) := by
  unfold bndK
  rw [List.take_succ_eq_append_getElem h, List.foldl_append]
  simp only [List.foldl_cons, List.foldl_nil]
  rw [List.getD_eq_getElem?_getD (i := s[k].toNat), List.getElem?_eq_getElem hj]
  rfl
theorem bndK_b {l : List Job} {s : List Int} (h : JobsOk l) (hs0 : 0 < s.length) (hs : ∀ i ∈ s, 0 ≤ i ∧ i < (l.length : Int)) : ∀ k, k ≤ s.length → (0 ≤ (bndK l s k).1 ∧ (bndK l s k).1 ≤ 10000000) ∧ (0 ≤ (bndK l s k).2.1 ∧ (bndK l s k).2.1 ≤ 10000 * (k : Int)) ∧ (0 ≤ (bndK l s k).2.2 ∧ (bndK l s k).2.2 ≤ 10000000)
  | 0, _ => by
    have h0 := hs _ (List.getElem_mem hs0)
    have hj : s[0].toNat < l.length := by omega
    have e : s.getD 0 0 = s[0] := by simp [List.getD_eq_getElem?_getD, List.getElem?_eq_getElem hs0]
    have hz : bndK l s 0 = (l[s[0].toNat].ready, (0 : Int), l[s[0].toNat].due) := by
      simp only [bndK, List.take_zero, List.foldl_nil, e]
      rw [List.getD_eq_getElem?_getD, List.getElem?_eq_getElem hj]; rfl
    rw [hz]
    have a := h.ready _ (List.getElem_mem hj)
    have b := h.due _ (List.getElem_mem hj)
    exact ⟨a, ⟨Int.le_refl _, by simp⟩, b⟩
  | k + 1, hk => by
    have hj := hs _ (List.getElem_mem (show k < s.length by omega))
    have hj : s[k].toNat < l.length := by omega
    have ih := bndK_b h hs0 hs k (by omega)
    rw [bndK_succ (by omega) hj]
    have a := h.ready _ (List.getElem_mem hj)
    have b := h.due _ (List.getElem_mem hj)
    have d := h.minutes _ (List.getElem_mem hj)
    simp only
    omega
theorem bound_s (b1 b2 : Bool) (l : List Job) (s : List Int) (h : JobsOk l) (hs0 : 0 < s.length) (hsl : s.length ≤ 1000000) (hs : ∀ i ∈ s, 0 ≤ i ∧ i < (l.length : Int)) : Ctr Try.prog 98 [.sl b1 4 (l.map eJ), .sl b2 1 (s.map eI)] (fun rr => rr = ⟨(.v (.int .i64 (bndE l s))), []⟩) := by
  have hb := bndK_b h hs0 hs
  have h0 := hs _ (List.getElem_mem hs0)
  have hj : s[0].toNat < l.length := by omega
  have e : s.getD 0 0 = s[0] := by simp [List.getD_eq_getElem?_getD, List.getElem?_eq_getElem hs0]
  have hz : bndK l s 0 = (l[s[0].toNat].ready, (0 : Int), l[s[0].toNat].due) := by
    simp only [bndK, List.take_zero, List.foldl_nil, e]
    rw [List.getD_eq_getElem?_getD, List.getElem?_eq_getElem hj]; rfl
  refine Ctr.of (rs := [.tmp 4]) Tok true Try.func98 rfl rfl rfl rfl (by simp [ofDL]) (fun w0 kp => ?_)
  simp only [↓sxD, ↓sxP0, ↓sxP3, ↓sxGd, sxP1, sxF, sxA, sxS, sxK, sxG, sxZ, sxH, sxU, encs, tys, sxN, sevalprocAttr, ne_eq, decide_true, decide_false]
  refine DrawW.plan Tok mixed (.q 0 <| .q 1 <| .q 2 <| .q 3 <| .q 4 <| .q 5 <| .q 6 <| .q 7 <| .q 8 <| .q 9 <| .q 10 <| .q 11 <| .q 12 <| .q 13 <| .q 14 <| .q 15 <| .q 16 <| .done) (by kernel_rfl) (by kernel_rfl) ?_
  simp only [↓sxD, ↓sxP0, ↓sxP3, ↓sxGd, sxP1, sxF, sxA, sxS, sxK, sxG, sxZ, sxH, sxU, encs, tys, sxN, sevalprocAttr, ne_eq, decide_true, decide_false]
  refine IxW.map (s[0]) (by omega) (List.getElem?_eq_getElem hs0) ?_
  simp only [↓sxD, ↓sxP0, ↓sxP3, ↓sxGd, sxP1, sxF, sxA, sxS, sxK, sxG, sxZ, sxH, sxU, encs, tys, sxN, sevalprocAttr, ne_eq, decide_true, decide_false]
  refine IxW.map (l[s[0].toNat]) (by omega) (List.getElem?_eq_getElem hj) ?_
  simp only [↓sxD, ↓sxP0, ↓sxP3, ↓sxGd, sxP1, sxF, sxA, sxS, sxK, sxG, sxZ, sxH, sxU, encs, tys, sxN, sevalprocAttr, ne_eq, decide_true, decide_false]
  refine IxW.map (s[0]) (by omega) (List.getElem?_eq_getElem hs0) ?_
  simp only [↓sxD, ↓sxP0, ↓sxP3, ↓sxGd, sxP1, sxF, sxA, sxS, sxK, sxG, sxZ, sxH, sxU, encs, tys, sxN, sevalprocAttr, ne_eq, decide_true, decide_false]
  refine IxW.map (l[s[0].toNat]) (by omega) (List.getElem?_eq_getElem hj) ?_
  simp only [↓sxD, ↓sxP0, ↓sxP3, ↓sxGd, sxP1, sxF, sxA, sxS, sxK, sxG, sxZ, sxH, sxU, encs, tys, sxN, sevalprocAttr, ne_eq, decide_true, decide_false]
  refine LoopW.comp [0, 5, 6, 7, 24, 25, 26] (by simp only [sxS, sxL, sxF, sxG, sxH, sxU, encs, sxN, sevalprocAttr, ne_eq, decide_true, decide_false] <;> (try simp) <;> (try omega)) ?_
  simp only [sxS, sxF, sxG, sxH, sxU, sxN, sevalprocAttr, ne_eq, decide_true, decide_false]
  refine LoopW.up Tok (fun k : Nat => [(5, (.v (.int .i64 ((bndK l s k).1)))), (6, (.v (.int .i64 ((bndK l s k).2.1)))), (7, (.v (.int .i64 ((bndK l s k).2.2)))), (26, (.v (.int .i64 k)))]) (fun k => []) (fun k => []) (fun k => []) (fun k => k ≤ s.length) (fun k => s.length - k) (0) (by simp only [sxS, sxL, sxF, sxG, sxH, sxU, encs, sxN, sevalprocAttr, ne_eq, decide_true, decide_false] <;> (try simp [hz, encs]) <;> (try omega)) ?_ ?_
  · omega
  rintro k hk
  simp only [↓sxD, ↓sxP0, ↓sxP3, ↓sxGd, sxP1, sxF, sxA, sxS, sxK, sxG, sxZ, sxH, sxU, encs, tys, sxN, sevalprocAttr, ne_eq, decide_true, decide_false]
  refine BrW.dec (fun hlt => ?_) (fun hlt => ?_)
  · simp only [↓sxD, ↓sxP0, ↓sxP3, ↓sxGd, sxP1, sxF, sxA, sxS, sxK, sxG, sxZ, sxH, sxU, encs, tys, sxN, sevalprocAttr, ne_eq, decide_true, decide_false]
    have hlt : k < s.length := by omega
    have hbk := hb k hk
    have hik := hs _ (List.getElem_mem hlt)
    have hjk : s[k].toNat < l.length := by omega
    have hmk := h.minutes _ (List.getElem_mem hjk)
    refine IxW.nat hlt ?_
    simp only [↓sxD, ↓sxP0, ↓sxP3, ↓sxGd, sxP1, sxF, sxA, sxS, sxK, sxG, sxZ, sxH, sxU, encs, tys, sxN, sevalprocAttr, ne_eq, decide_true, decide_false]
    refine DrawW.plan Tok mixed (.q 0 <| .q 1 <| .q 2 <| .q 3 <| .q 4 <| .q 5 <| .q 6 <| .q 7 <| .q 8 <| .q 9 <| .q 10 <| .q 11 <| .q 12 <| .q 13 <| .q 14 <| .q 15 <| .q 16 <| .q 17 <| .q 18 <| .q 19 <| .q 20 <| .q 21 <| .q 22 <| .q 23 <| .done) (by kernel_rfl) (by kernel_rfl) ?_
    simp only [↓sxD, ↓sxP0, ↓sxP3, ↓sxGd, sxP1, sxF, sxA, sxS, sxK, sxG, sxZ, sxH, sxU, encs, tys, sxN, sevalprocAttr, ne_eq, decide_true, decide_false]
    refine IxW.map (l[s[k].toNat]) (by omega) (List.getElem?_eq_getElem hjk) ?_
    simp only [↓sxD, ↓sxP0, ↓sxP3, ↓sxGd, sxP1, sxF, sxA, sxS, sxK, sxG, sxZ, sxH, sxU, encs, tys, sxN, sevalprocAttr, ne_eq, decide_true, decide_false]
    refine IxW.map (l[s[k].toNat]) (by omega) (List.getElem?_eq_getElem hjk) ?_
    simp only [↓sxD, ↓sxP0, ↓sxP3, ↓sxGd, sxP1, sxF, sxA, sxS, sxK, sxG, sxZ, sxH, sxU, encs, tys, sxN, sevalprocAttr, ne_eq, decide_true, decide_false]
    repeat ((with_reducible refine Vc.go ?_ fun _ => ?_); (focus (first | omega | (simp only [InK]; omega) | (simp [InK]; done) | (simp [InK]; omega))); simp only [↓sxD, ↓sxP0, ↓sxP3, ↓sxGd, sxP1, sxF, sxA, sxS, sxK, sxG, sxZ, sxH, sxU, encs, tys, sxN, sevalprocAttr, ne_eq, decide_true, decide_false])
    refine IxW.map (l[s[k].toNat]) (by omega) (List.getElem?_eq_getElem hjk) ?_
    simp only [↓sxD, ↓sxP0, ↓sxP3, ↓sxGd, sxP1, sxF, sxA, sxS, sxK, sxG, sxZ, sxH, sxU, encs, tys, sxN, sevalprocAttr, ne_eq, decide_true, decide_false]
    repeat ((with_reducible refine Vc.go ?_ fun _ => ?_); (focus (first | omega | (simp only [InK]; omega) | (simp [InK]; done) | (simp [InK]; omega))); simp only [↓sxD, ↓sxP0, ↓sxP3, ↓sxGd, sxP1, sxF, sxA, sxS, sxK, sxG, sxZ, sxH, sxU, encs, tys, sxN, sevalprocAttr, ne_eq, decide_true, decide_false])
    refine ⟨k + 1, StLe.auto (by simp only [sxS, sxL, sxF, sxG, sxH, sxU, encs, sxN, sevalprocAttr, ne_eq, decide_true, decide_false] <;> (try simp [bndK_succ hlt hjk, encs]) <;> (try omega)), ?_, ?_⟩
    · omega
    · omega
  · simp only [↓sxD, ↓sxP0, ↓sxP3, ↓sxGd, sxP1, sxF, sxA, sxS, sxK, sxG, sxZ, sxH, sxU, encs, tys, sxN, sevalprocAttr, ne_eq, decide_true, decide_false]
    have hke : k = s.length := by omega
    subst hke
    have hbk := hb s.length (Nat.le_refl _)
    repeat ((with_reducible refine Vc.go ?_ fun _ => ?_); (focus (first | omega | (simp only [InK]; omega) | (simp [InK]; done) | (simp [InK]; omega))); simp only [↓sxD, ↓sxP0, ↓sxP3, ↓sxGd, sxP1, sxF, sxA, sxS, sxK, sxG, sxZ, sxH, sxU, encs, tys, sxN, sevalprocAttr, ne_eq, decide_true, decide_false])
    exact EndW.fn (by simp only [sxL, sxG, sxH, sxU, encs, kpLL_map, sxN, sevalprocAttr, ne_eq, decide_true, decide_false] <;> (try simp [bndE]) <;> (try omega)) (by simp only [sxL, sxG, sxH, sxU, encs, kpLL_map, sxN, sevalprocAttr, ne_eq, decide_true, decide_false] <;> (try simp) <;> (try omega))
end Go.Proofs.Ytaagelngbbkllaa
