/-
  Chapter 9, walks: the sets of jobs (iterator).
-/
import Derived.Test.YtaagelngbbkllaaVW18
import Derived.Test.YtaagelngbbkllaaVW11
namespace Go.Proofs.Ytaagelngbbkllaa
open Go Go.Vx
set_option linter.unusedSimpArgs false
set_option linter.unusedVariables false
set_option maxRecDepth 20000
def setC (l : List Job) : List SV := [.pt true [.sl true 4 (l.map eJ)]]
theorem setC_eq : ∀ l, setC l = [.pt true [.sl true 4 (l.map eJ)]] := fun _ => rfl
theorem sets_s (l : List Job) : Ctr Try.prog 97 [.sl true 4 (l.map eJ)] (fun rr => rr = ⟨.clo 125 (setC l), []⟩) := by
  have encs := And.intro encs setC_eq
  refine Ctr.ofB (rs := [.tmp 2]) Tok Try.func97 rfl rfl rfl rfl (by simp [ofDL]) (fun w0 kp => ?_)
  simp only [↓sxD, ↓sxP0, ↓sxP3, ↓sxGd, sxP1, sxF, sxA, sxS, sxK, sxG, sxZ, sxH, sxU, encs, tys, sxN, sevalprocAttr, ne_eq, decide_true, decide_false]
  simp only [endY, boxV, boxL, bxPs, bxPs.bx1, bxD, assB, ptB, bxV, bxL, toDL, toD, consO, vD, oneV, dedN, addN, memN, sxL, sxS, sxF, sxG, sxH, sxU, encs, sxN, sevalprocAttr, ne_eq, decide_true, decide_false]
  exact EndW.fn (by simp only [sxL, sxG, sxH, sxU, encs, kpLL_map, sxN, sevalprocAttr, ne_eq, decide_true, decide_false] <;> (try simp) <;> (try omega)) (by simp only [sxL, sxG, sxH, sxU, encs, kpLL_map, sxN, sevalprocAttr, ne_eq, decide_true, decide_false] <;> (try simp) <;> (try omega))
def inSet (a b j : Job) : Bool := decide (a.ready ≤ j.ready) && decide (j.due ≤ b.due)
def setK (l : List Job) (a b : Job) (k : Nat) : List Int := ((List.range k).filter fun i => inSet a b (l.getD i ⟨⟨#[]⟩, 0, 0, 0⟩)).map fun i : Nat => (i : Int)
def setP (l : List Job) (a b : Job) : List (List Int) := if setK l a b l.length = [] then [] else [setK l a b l.length]
/-- what has been found ahead of job 'i', and with it ahead of job 'j'. -/
def setsI (l : List Job) (a : Job) (j : Nat) : List (List Int) := (l.take j).flatMap fun b => setP l a b
def setsO (l : List Job) (i : Nat) : List (List Int) := (l.take i).flatMap fun a => setsI l a l.length
def setsL (l : List Job) : List (List Int) := setsO l l.length
theorem setK_succ {l : List Job} {a b : Job} {k : Nat} (h : k < l.length) : setK l a b (k + 1) = if inSet a b l[k] = true then setK l a b k ++ [(k : Int)] else setK l a b k := by
  unfold setK
  rw [List.range_succ, List.filter_append, List.map_append]
  by_cases h2 : inSet a b l[k] = true
  · simp [List.getElem?_eq_getElem h, h2, List.filter_cons]
  · simp [List.getElem?_eq_getElem h, h2, List.filter_cons]
theorem setK_mem {l : List Job} {a b : Job} {k : Nat} {i : Int} (hk : k ≤ l.length) (h : i ∈ setK l a b k) : 0 ≤ i ∧ i < (l.length : Int) := by
  simp only [setK, List.mem_map, List.mem_filter, List.mem_range] at h
  obtain ⟨n, ⟨h1, _⟩, rfl⟩ := h
  omega
theorem setK_len {l : List Job} {a b : Job} (k : Nat) : (setK l a b k).length ≤ k := by
  simp only [setK, List.length_map]
  exact Nat.le_trans (List.length_filter_le _ _) (by simp)
theorem setsI_succ {l : List Job} {a : Job} {j : Nat} (h : j < l.length) : setsI l a (j + 1) = setsI l a j ++ setP l a l[j] := by
  unfold setsI
  rw [List.take_succ_eq_append_getElem h, List.flatMap_append]; simp
theorem setsO_succ {l : List Job} {i : Nat} (h : i < l.length) : setsO l (i + 1) = setsO l i ++ setsI l l[i] l.length := by
  unfold setsO
  rw [List.take_succ_eq_append_getElem h, List.flatMap_append]; simp
theorem setsI_le {l : List Job} {a : Job} {j k : Nat} (h : j ≤ k) : setsI l a j <+: setsI l a k := by
  unfold setsI
  obtain ⟨t, ht⟩ : l.take j <+: l.take k := List.take_prefix_take_left h
  rw [← ht, List.flatMap_append]
  exact List.prefix_append _ _
theorem setsO_le {l : List Job} {j k : Nat} (h : j ≤ k) : setsO l j <+: setsO l k := by
  unfold setsO
  obtain ⟨t, ht⟩ : l.take j <+: l.take k := List.take_prefix_take_left h
  rw [← ht, List.flatMap_append]
  exact List.prefix_append _ _
theorem setsIt_s (l : List Job) (h : JobsOk l) : ItCtr Try.prog 125 (setC l) ((setsL l).map eO) := by
  have encs := And.intro encs setC_eq
  have hn := h.n
  refine ItCtr.of Tok Try.func125 rfl rfl rfl rfl (by simp [ofDL, encs]) (fun w0 kp yd hok => ?_)
  simp only [↓sxD, ↓sxP0, ↓sxP3, ↓sxGd, sxP1, sxF, sxA, sxS, sxK, sxG, sxZ, sxH, sxU, encs, tys, sxN, sevalprocAttr, ne_eq, decide_true, decide_false]
  refine LoopW.comp [0, 1, 10, 11, 12] (by simp only [sxS, sxL, sxF, sxG, sxH, sxU, encs, sxN, sevalprocAttr, ne_eq, decide_true, decide_false] <;> (try simp) <;> (try omega)) ?_
  simp only [sxS, sxF, sxG, sxH, sxU, sxN, sevalprocAttr, ne_eq, decide_true, decide_false]
  refine LoopW.upG Tok (fun i : Nat => [(12, (.v (.int .i64 i)))]) (fun i => []) (fun i => []) (fun i => []) (fun i => (setsO l i).map eO) (fun i => i ≤ l.length) (fun i => l.length - i) (0) (by simp only [sxS, sxL, sxF, sxG, sxH, sxU, encs, sxN, sevalprocAttr, ne_eq, decide_true, decide_false] <;> (try simp [setsO, encs]) <;> (try omega)) ?_ ?_
  · omega
  rintro i hi
  simp only [↓sxD, ↓sxP0, ↓sxP3, ↓sxGd, sxP1, sxF, sxA, sxS, sxK, sxG, sxZ, sxH, sxU, encs, tys, sxN, sevalprocAttr, ne_eq, decide_true, decide_false]
  refine BrW.dec (fun hlt => ?_) (fun hlt => ?_)
  · simp only [↓sxD, ↓sxP0, ↓sxP3, ↓sxGd, sxP1, sxF, sxA, sxS, sxK, sxG, sxZ, sxH, sxU, encs, tys, sxN, sevalprocAttr, ne_eq, decide_true, decide_false]
    have hilt : i < l.length := by omega
    refine IxW.nat hilt ?_
    simp only [↓sxD, ↓sxP0, ↓sxP3, ↓sxGd, sxP1, sxF, sxA, sxS, sxK, sxG, sxZ, sxH, sxU, encs, tys, sxN, sevalprocAttr, ne_eq, decide_true, decide_false]
    refine LoopW.comp [0, 1, 4, 10, 11, 12, 16, 17, 18] (by simp only [sxS, sxL, sxF, sxG, sxH, sxU, encs, sxN, sevalprocAttr, ne_eq, decide_true, decide_false] <;> (try simp) <;> (try omega)) ?_
    simp only [sxS, sxF, sxG, sxH, sxU, sxN, sevalprocAttr, ne_eq, decide_true, decide_false]
    refine LoopW.upG Tok (fun j : Nat => [(18, (.v (.int .i64 j)))]) (fun j => []) (fun j => []) (fun j => []) (fun j => (setsO l i ++ setsI l l[i] j).map eO) (fun j => j ≤ l.length) (fun j => l.length - j) (0) (by simp only [sxS, sxL, sxF, sxG, sxH, sxU, encs, sxN, sevalprocAttr, ne_eq, decide_true, decide_false] <;> (try simp [setsI, encs]) <;> (try omega)) ?_ ?_
    · omega
    rintro j hj
    simp only [↓sxD, ↓sxP0, ↓sxP3, ↓sxGd, sxP1, sxF, sxA, sxS, sxK, sxG, sxZ, sxH, sxU, encs, tys, sxN, sevalprocAttr, ne_eq, decide_true, decide_false]
    refine BrW.dec (fun hlt2 => ?_) (fun hlt2 => ?_)
    · simp only [↓sxD, ↓sxP0, ↓sxP3, ↓sxGd, sxP1, sxF, sxA, sxS, sxK, sxG, sxZ, sxH, sxU, encs, tys, sxN, sevalprocAttr, ne_eq, decide_true, decide_false]
      have hjlt : j < l.length := by omega
      refine IxW.nat hjlt ?_
      simp only [↓sxD, ↓sxP0, ↓sxP3, ↓sxGd, sxP1, sxF, sxA, sxS, sxK, sxG, sxZ, sxH, sxU, encs, tys, sxN, sevalprocAttr, ne_eq, decide_true, decide_false]
      refine LoopW.comp [0, 1, 4, 6, 7, 10, 11, 12, 16, 17, 18, 22, 23, 24] (by simp only [sxS, sxL, sxF, sxG, sxH, sxU, encs, sxN, sevalprocAttr, ne_eq, decide_true, decide_false] <;> (try simp) <;> (try omega)) ?_
      simp only [sxS, sxF, sxG, sxH, sxU, sxN, sevalprocAttr, ne_eq, decide_true, decide_false]
      refine LoopW.upG Tok (fun k : Nat => [(7, .row 1), (24, (.v (.int .i64 k)))]) (fun k => []) (fun k => []) (fun k => [.own 3 1 ((setK l l[i] l[j] k).map eI)]) (fun k => (setsO l i ++ setsI l l[i] j).map eO) (fun k => k ≤ l.length) (fun k => l.length - k) (0) (by simp only [sxS, sxL, sxF, sxG, sxH, sxU, encs, sxN, sevalprocAttr, ne_eq, decide_true, decide_false] <;> (try simp [setK, encs]) <;> (try omega)) ?_ ?_
      · omega
      rintro k hk
      simp only [↓sxD, ↓sxP0, ↓sxP3, ↓sxGd, sxP1, sxF, sxA, sxS, sxK, sxG, sxZ, sxH, sxU, encs, tys, sxN, sevalprocAttr, ne_eq, decide_true, decide_false]
      refine BrW.dec (fun hlt3 => ?_) (fun hlt3 => ?_)
      · simp only [↓sxD, ↓sxP0, ↓sxP3, ↓sxGd, sxP1, sxF, sxA, sxS, sxK, sxG, sxZ, sxH, sxU, encs, tys, sxN, sevalprocAttr, ne_eq, decide_true, decide_false]
        have hklt : k < l.length := by omega
        refine IxW.nat hklt ?_
        simp only [↓sxD, ↓sxP0, ↓sxP3, ↓sxGd, sxP1, sxF, sxA, sxS, sxK, sxG, sxZ, sxH, sxU, encs, tys, sxN, sevalprocAttr, ne_eq, decide_true, decide_false]
        have hsl := setK_len (l := l) (a := l[i]) (b := l[j]) k
        refine BrW.dec (fun t1 => ?_) (fun t1 => ?_)
        · simp only [↓sxD, ↓sxP0, ↓sxP3, ↓sxGd, sxP1, sxF, sxA, sxS, sxK, sxG, sxZ, sxH, sxU, encs, tys, sxN, sevalprocAttr, ne_eq, decide_true, decide_false]
          refine BrW.dec (fun t2 => ?_) (fun t2 => ?_)
          · have he : setK l l[i] l[j] (k + 1) = setK l l[i] l[j] k ++ [(k : Int)] := by rw [setK_succ hklt, if_pos (by simp [inSet]; omega)]
            simp only [↓sxD, ↓sxP0, ↓sxP3, ↓sxGd, sxP1, sxF, sxA, sxS, sxK, sxG, sxZ, sxH, sxU, encs, tys, sxN, sevalprocAttr, ne_eq, decide_true, decide_false]
            repeat ((with_reducible refine Vc.go ?_ fun _ => ?_); (focus (first | omega | (simp only [InK]; omega) | (simp [InK]; done) | (simp [InK]; omega))); simp only [↓sxD, ↓sxP0, ↓sxP3, ↓sxGd, sxP1, sxF, sxA, sxS, sxK, sxG, sxZ, sxH, sxU, encs, tys, sxN, sevalprocAttr, ne_eq, decide_true, decide_false])
            refine ⟨k + 1, StLe.auto (by simp only [sxS, sxL, sxF, sxG, sxH, sxU, encs, sxN, sevalprocAttr, ne_eq, decide_true, decide_false] <;> (try simp [he, encs]) <;> (try omega)), ?_, ?_⟩
            · omega
            · omega
          · have he : setK l l[i] l[j] (k + 1) = setK l l[i] l[j] k := by rw [setK_succ hklt, if_neg (by simp [inSet]; omega)]
            simp only [↓sxD, ↓sxP0, ↓sxP3, ↓sxGd, sxP1, sxF, sxA, sxS, sxK, sxG, sxZ, sxH, sxU, encs, tys, sxN, sevalprocAttr, ne_eq, decide_true, decide_false]
            repeat ((with_reducible refine Vc.go ?_ fun _ => ?_); (focus (first | omega | (simp only [InK]; omega) | (simp [InK]; done) | (simp [InK]; omega))); simp only [↓sxD, ↓sxP0, ↓sxP3, ↓sxGd, sxP1, sxF, sxA, sxS, sxK, sxG, sxZ, sxH, sxU, encs, tys, sxN, sevalprocAttr, ne_eq, decide_true, decide_false])
            refine ⟨k + 1, StLe.auto (by simp only [sxS, sxL, sxF, sxG, sxH, sxU, encs, sxN, sevalprocAttr, ne_eq, decide_true, decide_false] <;> (try simp [he, encs]) <;> (try omega)), ?_, ?_⟩
            · omega
            · omega
        · have he : setK l l[i] l[j] (k + 1) = setK l l[i] l[j] k := by rw [setK_succ hklt, if_neg (by simp [inSet]; omega)]
          simp only [↓sxD, ↓sxP0, ↓sxP3, ↓sxGd, sxP1, sxF, sxA, sxS, sxK, sxG, sxZ, sxH, sxU, encs, tys, sxN, sevalprocAttr, ne_eq, decide_true, decide_false]
          repeat ((with_reducible refine Vc.go ?_ fun _ => ?_); (focus (first | omega | (simp only [InK]; omega) | (simp [InK]; done) | (simp [InK]; omega))); simp only [↓sxD, ↓sxP0, ↓sxP3, ↓sxGd, sxP1, sxF, sxA, sxS, sxK, sxG, sxZ, sxH, sxU, encs, tys, sxN, sevalprocAttr, ne_eq, decide_true, decide_false])
          refine ⟨k + 1, StLe.auto (by simp only [sxS, sxL, sxF, sxG, sxH, sxU, encs, sxN, sevalprocAttr, ne_eq, decide_true, decide_false] <;> (try simp [he, encs]) <;> (try omega)), ?_, ?_⟩
          · omega
          · omega
      · simp only [↓sxD, ↓sxP0, ↓sxP3, ↓sxGd, sxP1, sxF, sxA, sxS, sxK, sxG, sxZ, sxH, sxU, encs, tys, sxN, sevalprocAttr, ne_eq, decide_true, decide_false]
        have hke : k = l.length := by omega
        subst hke
        have hse := setsI_succ (a := l[i]) hjlt
        have hle2 : setsO l i ++ setsI l l[i] (j + 1) <+: setsL l := by
          have h1 := setsI_le (l := l) (a := l[i]) (show j + 1 ≤ l.length by omega)
          have h2 := setsO_le (l := l) (show i + 1 ≤ l.length by omega)
          rw [setsO_succ hilt] at h2
          exact ((List.prefix_append_right_inj _).2 h1).trans h2
        refine BrW.dec (fun hpos => ?_) (fun hpos => ?_)
        · have hne : ¬ setK l l[i] l[j] l.length = [] := fun e => by rw [e] at hpos; simp at hpos
          have hP : setP l l[i] l[j] = [setK l l[i] l[j] l.length] := by rw [setP, if_neg hne]
          rw [hse, hP] at hle2
          rw [hP] at hse
          have hm : ((setsO l i ++ setsI l l[i] j).map eO ++ [eO (setK l l[i] l[j] l.length)]) <+: (setsL l).map eO := by
            have := hle2.map eO
            simpa [List.append_assoc] using this
          have encs := And.intro encs (show ∀ o, eO o = [.sl true 1 (o.map eI)] from fun _ => rfl)
          simp only [↓sxD, ↓sxP0, ↓sxP3, ↓sxGd, sxP1, sxF, sxA, sxS, sxK, sxG, sxZ, sxH, sxU, encs, tys, sxN, sevalprocAttr, ne_eq, decide_true, decide_false]
          refine YldI.of (ys := (setsO l i ++ setsI l l[i] j).map eO) hok rfl rfl (by simp only [sxS, sxL, sxF, sxG, sxH, sxU, sxA, encs, sxN, sevalprocAttr, ne_eq, decide_true, decide_false] <;> rfl) (by simp only [sxS, sxL, sxF, sxG, sxH, sxU, sxA, encs, sxN, sevalprocAttr, ne_eq, decide_true, decide_false] <;> rfl) rfl rfl rfl (hm) ?_ ?_
          · simp only [↓sxD, ↓sxP0, ↓sxP3, ↓sxGd, sxP1, sxF, sxA, sxS, sxK, sxG, sxZ, sxH, sxU, encs, tys, sxN, sevalprocAttr, ne_eq, decide_true, decide_false]
            repeat ((with_reducible refine Vc.go ?_ fun _ => ?_); (focus (first | omega | (simp only [InK]; omega) | (simp [InK]; done) | (simp [InK]; omega))); simp only [↓sxD, ↓sxP0, ↓sxP3, ↓sxGd, sxP1, sxF, sxA, sxS, sxK, sxG, sxZ, sxH, sxU, encs, tys, sxN, sevalprocAttr, ne_eq, decide_true, decide_false])
            refine ⟨j + 1, StLe.auto (by simp only [sxS, sxL, sxF, sxG, sxH, sxU, encs, sxN, sevalprocAttr, ne_eq, decide_true, decide_false] <;> (try simp [hse, encs]) <;> (try omega)), ?_, ?_⟩
            · omega
            · omega
          · simp only [↓sxD, ↓sxP0, ↓sxP3, ↓sxGd, sxP1, sxF, sxA, sxS, sxK, sxG, sxZ, sxH, sxU, encs, tys, sxN, sevalprocAttr, ne_eq, decide_true, decide_false]
            intro h
            cases h
        · have he : setK l l[i] l[j] l.length = [] := List.eq_nil_of_length_eq_zero (by omega)
          have hP : setP l l[i] l[j] = [] := by rw [setP, if_pos he]
          rw [hP, List.append_nil] at hse
          simp only [↓sxD, ↓sxP0, ↓sxP3, ↓sxGd, sxP1, sxF, sxA, sxS, sxK, sxG, sxZ, sxH, sxU, encs, tys, sxN, sevalprocAttr, ne_eq, decide_true, decide_false]
          repeat ((with_reducible refine Vc.go ?_ fun _ => ?_); (focus (first | omega | (simp only [InK]; omega) | (simp [InK]; done) | (simp [InK]; omega))); simp only [↓sxD, ↓sxP0, ↓sxP3, ↓sxGd, sxP1, sxF, sxA, sxS, sxK, sxG, sxZ, sxH, sxU, encs, tys, sxN, sevalprocAttr, ne_eq, decide_true, decide_false])
          refine ⟨j + 1, StLe.auto (by simp only [sxS, sxL, sxF, sxG, sxH, sxU, encs, sxN, sevalprocAttr, ne_eq, decide_true, decide_false] <;> (try simp [hse, encs]) <;> (try omega)), ?_, ?_⟩
          · omega
          · omega
    · simp only [↓sxD, ↓sxP0, ↓sxP3, ↓sxGd, sxP1, sxF, sxA, sxS, sxK, sxG, sxZ, sxH, sxU, encs, tys, sxN, sevalprocAttr, ne_eq, decide_true, decide_false]
      have hke : j = l.length := by omega
      subst hke
      have hse := setsO_succ hilt
      rw [← hse]
      repeat ((with_reducible refine Vc.go ?_ fun _ => ?_); (focus (first | omega | (simp only [InK]; omega) | (simp [InK]; done) | (simp [InK]; omega))); simp only [↓sxD, ↓sxP0, ↓sxP3, ↓sxGd, sxP1, sxF, sxA, sxS, sxK, sxG, sxZ, sxH, sxU, encs, tys, sxN, sevalprocAttr, ne_eq, decide_true, decide_false])
      refine ⟨i + 1, StLe.auto (by simp only [sxS, sxL, sxF, sxG, sxH, sxU, encs, sxN, sevalprocAttr, ne_eq, decide_true, decide_false] <;> (try simp) <;> (try omega)), ?_, ?_⟩
      · omega
      · omega
  · simp only [↓sxD, ↓sxP0, ↓sxP3, ↓sxGd, sxP1, sxF, sxA, sxS, sxK, sxG, sxZ, sxH, sxU, encs, tys, sxN, sevalprocAttr, ne_eq, decide_true, decide_false]
    have hke : i = l.length := by omega
    subst hke
    intro _
    rfl
end Go.Proofs.Ytaagelngbbkllaa
