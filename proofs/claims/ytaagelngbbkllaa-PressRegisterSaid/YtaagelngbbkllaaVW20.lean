/-
  Chapter 9, walks: the schedule by dues.
-/
import Derived.Test.YtaagelngbbkllaaVP9D
namespace Go.Proofs.Ytaagelngbbkllaa
open Go Go.Vx
set_option linter.unusedSimpArgs false
set_option linter.unusedVariables false
set_option maxRecDepth 20000
def minK (l : List Job) (k : Nat) : List Int := (l.take k).map (·.minutes) ++ List.replicate (l.length - k) 0
theorem minK_succ {l : List Job} {k : Nat} (h : k < l.length) : minK l (k + 1) = (minK l k).set k l[k].minutes := by
  unfold minK
  have e : l.length - k = (l.length - (k + 1)) + 1 := by omega
  rw [List.take_succ_eq_append_getElem h, e, List.replicate_succ, List.map_append, List.set_append_right _ _ (by simp; omega)]
  have e2 : k - (List.map (fun x => x.minutes) (List.take k l)).length = 0 := by simp; omega
  rw [e2]
  simp
theorem minK_len {l : List Job} {k : Nat} (h : k ≤ l.length) : (minK l k).length = l.length := by simp [minK]; omega
theorem minK_all (l : List Job) : minK l l.length = (ds0 l).left := by simp [minK, ds0]
theorem modT {l : List Slot} {i : Nat} (h : i < l.length) (m : Int) : (l.map eT).modify i (fun x => modE x 2 [.v (.int .i64 m)]) = (l.set i ⟨l[i].job, l[i].start, m⟩).map eT := by
  induction l generalizing i with
  | nil => simp at h
  | cons a l ih =>
    cases i with
    | zero => simp [modE, eT]
    | succ i => simpa using ih (i := i) (by simpa using h)
set_option maxHeartbeats 4000000 in
theorem byDues_s (b : Bool) (l : List Job) (hj : JobsOk l) : Ctr Try.prog 95 [.sl b 4 (l.map eJ)] (fun rr => rr = ⟨.sl true 3 ((dues l).map eT), []⟩) := by
  have hn0 := hj.n0
  have hn := hj.n
  have encs0 := encs
  have encs := And.intro encs (And.intro repI repI2)
  refine Ctr.of (rs := [.tmp 2]) Tok true Try.func95 rfl rfl rfl rfl (by simp [ofDL]) (fun w0 kp => ?_)
  simp only [↓sxD, ↓sxP0, ↓sxP3, ↓sxGd, sxP1, sxF, sxA, sxS, sxK, sxG, sxZ, sxH, sxU, encs, tys, sxN, sevalprocAttr, ne_eq, decide_true, decide_false]
  repeat ((with_reducible refine Vc.go ?_ fun _ => ?_); (focus (first | omega | (simp only [InK]; omega) | (simp [InK]; done) | (simp [InK]; omega))); simp only [↓sxD, ↓sxP0, ↓sxP3, ↓sxGd, sxP1, sxF, sxA, sxS, sxK, sxG, sxZ, sxH, sxU, encs, tys, sxN, sevalprocAttr, ne_eq, decide_true, decide_false])
  replace encs := encs0
  refine LoopW.comp [0, 3, 4, 17, 18, 19] (by simp only [sxS, sxL, sxF, sxG, sxH, sxU, encs, sxN, sevalprocAttr, ne_eq, decide_true, decide_false] <;> (try simp) <;> (try omega)) ?_
  simp only [sxS, sxF, sxG, sxH, sxU, sxN, sevalprocAttr, ne_eq, decide_true, decide_false]
  refine LoopW.up Tok (fun k : Nat => [(19, (.v (.int .i64 k)))]) (fun k => []) (fun k => [(0, (minK l k).map eI)]) (fun k => []) (fun k => k ≤ l.length) (fun k => l.length - k) (0) (by simp only [sxS, sxL, sxF, sxG, sxH, sxU, encs, sxN, sevalprocAttr, ne_eq, decide_true, decide_false] <;> (try simp [minK, encs]) <;> (try omega)) ?_ ?_
  · omega
  rintro k hk
  simp only [↓sxD, ↓sxP0, ↓sxP3, ↓sxGd, sxP1, sxF, sxA, sxS, sxK, sxG, sxZ, sxH, sxU, encs, tys, sxN, sevalprocAttr, ne_eq, decide_true, decide_false]
  refine BrW.dec (fun hlt => ?_) (fun hlt => ?_)
  · simp only [↓sxD, ↓sxP0, ↓sxP3, ↓sxGd, sxP1, sxF, sxA, sxS, sxK, sxG, sxZ, sxH, sxU, encs, tys, sxN, sevalprocAttr, ne_eq, decide_true, decide_false]
    have hlt : k < l.length := by omega
    have hml := minK_len hk
    refine IxW.nat hlt ?_
    simp only [↓sxD, ↓sxP0, ↓sxP3, ↓sxGd, sxP1, sxF, sxA, sxS, sxK, sxG, sxZ, sxH, sxU, encs, tys, sxN, sevalprocAttr, ne_eq, decide_true, decide_false]
    repeat ((with_reducible refine Vc.go ?_ fun _ => ?_); (focus (first | omega | (simp only [InK]; omega) | (simp [InK]; done) | (simp [InK]; omega))); simp only [↓sxD, ↓sxP0, ↓sxP3, ↓sxGd, sxP1, sxF, sxA, sxS, sxK, sxG, sxZ, sxH, sxU, encs, tys, sxN, sevalprocAttr, ne_eq, decide_true, decide_false])
    refine ⟨k + 1, StLe.auto (by simp only [sxS, sxL, sxF, sxG, sxH, sxU, encs, sxN, sevalprocAttr, ne_eq, decide_true, decide_false] <;> (try simp [minK_succ hlt, modI, encs]) <;> (try omega)), ?_, ?_⟩
    · omega
    · omega
  · simp only [↓sxD, ↓sxP0, ↓sxP3, ↓sxGd, sxP1, sxF, sxA, sxS, sxK, sxG, sxZ, sxH, sxU, encs, tys, sxN, sevalprocAttr, ne_eq, decide_true, decide_false]
    have hke : k = l.length := by omega
    subst hke
    rw [minK_all]
    refine LoopW.comp [0, 3, 4, 7] (by simp only [sxS, sxL, sxF, sxG, sxH, sxU, encs, sxN, sevalprocAttr, ne_eq, decide_true, decide_false] <;> (try simp) <;> (try omega)) ?_
    simp only [sxS, sxF, sxG, sxH, sxU, sxN, sevalprocAttr, ne_eq, decide_true, decide_false]
    refine LoopW.up Tok (fun s : DS => [(3, .row 1), (7, (.v (.int .i64 s.now)))]) (fun s => []) (fun s => [(0, s.left.map eI)]) (fun s => [.own 67 3 (s.out.map eT)]) (fun s => DOk l s ∧ ∃ f, meas l s ≤ f ∧ duesF l f s = dues l) (fun s => meas l s) (ds0 l) (by simp only [sxS, sxL, sxF, sxG, sxH, sxU, encs, sxN, sevalprocAttr, ne_eq, decide_true, decide_false] <;> (try simp [ds0, encs]) <;> (try omega)) ?_ ?_
    · exact ⟨ds0_ok hj, _, Nat.le_refl _, rfl⟩
    rintro s ⟨hs, f, hf, hd⟩
    simp only [↓sxD, ↓sxP0, ↓sxP3, ↓sxGd, sxP1, sxF, sxA, sxS, sxK, sxG, sxZ, sxH, sxU, encs, tys, sxN, sevalprocAttr, ne_eq, decide_true, decide_false]
    refine LoopW.comp [0, 3, 4, 7, 8, 9, 30, 31, 32] (by simp only [sxS, sxL, sxF, sxG, sxH, sxU, encs, sxN, sevalprocAttr, ne_eq, decide_true, decide_false] <;> (try simp) <;> (try omega)) ?_
    simp only [sxS, sxF, sxG, sxH, sxU, sxN, sevalprocAttr, ne_eq, decide_true, decide_false]
    refine LoopW.up Tok (fun k : Nat => [(8, (.v (.int .i64 ((scan l s.left s.now k).1)))), (9, (.v (.int .i64 ((scan l s.left s.now k).2)))), (32, (.v (.int .i64 k)))]) (fun k => []) (fun k => []) (fun k => []) (fun k => k ≤ l.length) (fun k => l.length - k) (0) (by simp only [sxS, sxL, sxF, sxG, sxH, sxU, encs, sxN, sevalprocAttr, ne_eq, decide_true, decide_false] <;> (try simp [scan, encs]) <;> (try omega)) ?_ ?_
    · omega
    rintro k hk
    simp only [↓sxD, ↓sxP0, ↓sxP3, ↓sxGd, sxP1, sxF, sxA, sxS, sxK, sxG, sxZ, sxH, sxU, encs, tys, sxN, sevalprocAttr, ne_eq, decide_true, decide_false]
    refine BrW.dec (fun hlt2 => ?_) (fun hlt2 => ?_)
    · simp only [↓sxD, ↓sxP0, ↓sxP3, ↓sxGd, sxP1, sxF, sxA, sxS, sxK, sxG, sxZ, sxH, sxU, encs, tys, sxN, sevalprocAttr, ne_eq, decide_true, decide_false]
      have hklt : k < l.length := by omega
      refine IxW.nat hklt ?_
      simp only [↓sxD, ↓sxP0, ↓sxP3, ↓sxGd, sxP1, sxF, sxA, sxS, sxK, sxG, sxZ, sxH, sxU, encs, tys, sxN, sevalprocAttr, ne_eq, decide_true, decide_false]
      have hkl : k < s.left.length := by have := hs.ll; omega
      have hg := gd_eq hkl
      have hjk := jb_eq hklt
      have hrk := hj.ready _ (List.getElem_mem hklt)
      have hbk := scan_best (l := l) (left := s.left) (now := s.now) k
      repeat ((with_reducible refine Vc.go ?_ fun _ => ?_); (focus (first | omega | (simp only [InK]; omega) | (simp [InK]; done) | (simp [InK]; omega))); simp only [↓sxD, ↓sxP0, ↓sxP3, ↓sxGd, sxP1, sxF, sxA, sxS, sxK, sxG, sxZ, sxH, sxU, encs, tys, sxN, sevalprocAttr, ne_eq, decide_true, decide_false])
      refine IxW.nat hkl ?_
      simp only [↓sxD, ↓sxP0, ↓sxP3, ↓sxGd, sxP1, sxF, sxA, sxS, sxK, sxG, sxZ, sxH, sxU, encs, tys, sxN, sevalprocAttr, ne_eq, decide_true, decide_false]
      refine BrW.dec (fun z => ?_) (fun z => ?_)
      · have he : scan l s.left s.now (k + 1) = scan l s.left s.now k := by simp only [scan]; rw [if_pos (by omega)]
        simp only [↓sxD, ↓sxP0, ↓sxP3, ↓sxGd, sxP1, sxF, sxA, sxS, sxK, sxG, sxZ, sxH, sxU, encs, tys, sxN, sevalprocAttr, ne_eq, decide_true, decide_false]
        repeat ((with_reducible refine Vc.go ?_ fun _ => ?_); (focus (first | omega | (simp only [InK]; omega) | (simp [InK]; done) | (simp [InK]; omega))); simp only [↓sxD, ↓sxP0, ↓sxP3, ↓sxGd, sxP1, sxF, sxA, sxS, sxK, sxG, sxZ, sxH, sxU, encs, tys, sxN, sevalprocAttr, ne_eq, decide_true, decide_false])
        refine ⟨k + 1, StLe.auto (by simp only [sxS, sxL, sxF, sxG, sxH, sxU, encs, sxN, sevalprocAttr, ne_eq, decide_true, decide_false] <;> (try simp [he, encs]) <;> (try omega)), ?_, ?_⟩
        · omega
        · omega
      · simp only [↓sxD, ↓sxP0, ↓sxP3, ↓sxGd, sxP1, sxF, sxA, sxS, sxK, sxG, sxZ, sxH, sxU, encs, tys, sxN, sevalprocAttr, ne_eq, decide_true, decide_false]
        have hnx : ¬ s.left.getD k 0 = 0 := by omega
        refine BrW.dec (fun rn => ?_) (fun rn => ?_)
        · simp only [↓sxD, ↓sxP0, ↓sxP3, ↓sxGd, sxP1, sxF, sxA, sxS, sxK, sxG, sxZ, sxH, sxU, encs, tys, sxN, sevalprocAttr, ne_eq, decide_true, decide_false]
          refine BrW.dec (fun x1 => ?_) (fun x1 => ?_)
          · have he : scan l s.left s.now (k + 1) = ((scan l s.left s.now k).1, l[k].ready) := by simp only [scan, hjk]; rw [if_neg hnx, if_pos (by omega), if_pos (.inl x1)]
            simp only [↓sxD, ↓sxP0, ↓sxP3, ↓sxGd, sxP1, sxF, sxA, sxS, sxK, sxG, sxZ, sxH, sxU, encs, tys, sxN, sevalprocAttr, ne_eq, decide_true, decide_false]
            repeat ((with_reducible refine Vc.go ?_ fun _ => ?_); (focus (first | omega | (simp only [InK]; omega) | (simp [InK]; done) | (simp [InK]; omega))); simp only [↓sxD, ↓sxP0, ↓sxP3, ↓sxGd, sxP1, sxF, sxA, sxS, sxK, sxG, sxZ, sxH, sxU, encs, tys, sxN, sevalprocAttr, ne_eq, decide_true, decide_false])
            refine ⟨k + 1, StLe.auto (by simp only [sxS, sxL, sxF, sxG, sxH, sxU, encs, sxN, sevalprocAttr, ne_eq, decide_true, decide_false] <;> (try simp [he, encs]) <;> (try omega)), ?_, ?_⟩
            · omega
            · omega
          · simp only [↓sxD, ↓sxP0, ↓sxP3, ↓sxGd, sxP1, sxF, sxA, sxS, sxK, sxG, sxZ, sxH, sxU, encs, tys, sxN, sevalprocAttr, ne_eq, decide_true, decide_false]
            refine BrW.dec (fun x2 => ?_) (fun x2 => ?_)
            · have he : scan l s.left s.now (k + 1) = ((scan l s.left s.now k).1, l[k].ready) := by simp only [scan, hjk]; rw [if_neg hnx, if_pos (by omega), if_pos (.inr (by omega))]
              simp only [↓sxD, ↓sxP0, ↓sxP3, ↓sxGd, sxP1, sxF, sxA, sxS, sxK, sxG, sxZ, sxH, sxU, encs, tys, sxN, sevalprocAttr, ne_eq, decide_true, decide_false]
              repeat ((with_reducible refine Vc.go ?_ fun _ => ?_); (focus (first | omega | (simp only [InK]; omega) | (simp [InK]; done) | (simp [InK]; omega))); simp only [↓sxD, ↓sxP0, ↓sxP3, ↓sxGd, sxP1, sxF, sxA, sxS, sxK, sxG, sxZ, sxH, sxU, encs, tys, sxN, sevalprocAttr, ne_eq, decide_true, decide_false])
              refine ⟨k + 1, StLe.auto (by simp only [sxS, sxL, sxF, sxG, sxH, sxU, encs, sxN, sevalprocAttr, ne_eq, decide_true, decide_false] <;> (try simp [he, encs]) <;> (try omega)), ?_, ?_⟩
              · omega
              · omega
            · have he : scan l s.left s.now (k + 1) = scan l s.left s.now k := by simp only [scan, hjk]; rw [if_neg hnx, if_pos (by omega), if_neg (by omega)]
              simp only [↓sxD, ↓sxP0, ↓sxP3, ↓sxGd, sxP1, sxF, sxA, sxS, sxK, sxG, sxZ, sxH, sxU, encs, tys, sxN, sevalprocAttr, ne_eq, decide_true, decide_false]
              repeat ((with_reducible refine Vc.go ?_ fun _ => ?_); (focus (first | omega | (simp only [InK]; omega) | (simp [InK]; done) | (simp [InK]; omega))); simp only [↓sxD, ↓sxP0, ↓sxP3, ↓sxGd, sxP1, sxF, sxA, sxS, sxK, sxG, sxZ, sxH, sxU, encs, tys, sxN, sevalprocAttr, ne_eq, decide_true, decide_false])
              refine ⟨k + 1, StLe.auto (by simp only [sxS, sxL, sxF, sxG, sxH, sxU, encs, sxN, sevalprocAttr, ne_eq, decide_true, decide_false] <;> (try simp [he, encs]) <;> (try omega)), ?_, ?_⟩
              · omega
              · omega
        · simp only [↓sxD, ↓sxP0, ↓sxP3, ↓sxGd, sxP1, sxF, sxA, sxS, sxK, sxG, sxZ, sxH, sxU, encs, tys, sxN, sevalprocAttr, ne_eq, decide_true, decide_false]
          refine DrawW.plan Tok mixed (.q 0 <| .q 1 <| .q 2 <| .q 3 <| .q 4 <| .q 5 <| .q 6 <| .q 7 <| .q 8 <| .q 9 <| .q 10 <| .q 11 <| .q 12 <| .done) (by kernel_rfl) (by kernel_rfl) ?_
          simp only [↓sxD, ↓sxP0, ↓sxP3, ↓sxGd, sxP1, sxF, sxA, sxS, sxK, sxG, sxZ, sxH, sxU, encs, tys, sxN, sevalprocAttr, ne_eq, decide_true, decide_false]
          refine BrW.dec (fun x1 => ?_) (fun x1 => ?_)
          · have he : scan l s.left s.now (k + 1) = ((k : Int), (scan l s.left s.now k).2) := by simp only [scan, hjk]; rw [if_neg hnx, if_neg (by omega), if_pos (.inl x1)]
            simp only [↓sxD, ↓sxP0, ↓sxP3, ↓sxGd, sxP1, sxF, sxA, sxS, sxK, sxG, sxZ, sxH, sxU, encs, tys, sxN, sevalprocAttr, ne_eq, decide_true, decide_false]
            repeat ((with_reducible refine Vc.go ?_ fun _ => ?_); (focus (first | omega | (simp only [InK]; omega) | (simp [InK]; done) | (simp [InK]; omega))); simp only [↓sxD, ↓sxP0, ↓sxP3, ↓sxGd, sxP1, sxF, sxA, sxS, sxK, sxG, sxZ, sxH, sxU, encs, tys, sxN, sevalprocAttr, ne_eq, decide_true, decide_false])
            refine ⟨k + 1, StLe.auto (by simp only [sxS, sxL, sxF, sxG, sxH, sxU, encs, sxN, sevalprocAttr, ne_eq, decide_true, decide_false] <;> (try simp [he, encs]) <;> (try omega)), ?_, ?_⟩
            · omega
            · omega
          · simp only [↓sxD, ↓sxP0, ↓sxP3, ↓sxGd, sxP1, sxF, sxA, sxS, sxK, sxG, sxZ, sxH, sxU, encs, tys, sxN, sevalprocAttr, ne_eq, decide_true, decide_false]
            have hb0 : (scan l s.left s.now k).1.toNat < l.length := by omega
            have hjb := jb_eq hb0
            refine IxW.map (l[(scan l s.left s.now k).1.toNat]) (by omega) (List.getElem?_eq_getElem hb0) ?_
            simp only [↓sxD, ↓sxP0, ↓sxP3, ↓sxGd, sxP1, sxF, sxA, sxS, sxK, sxG, sxZ, sxH, sxU, encs, tys, sxN, sevalprocAttr, ne_eq, decide_true, decide_false]
            refine BrW.dec (fun x2 => ?_) (fun x2 => ?_)
            · have he : scan l s.left s.now (k + 1) = ((k : Int), (scan l s.left s.now k).2) := by simp only [scan, hjk]; rw [if_neg hnx, if_neg (by omega), if_pos (.inr (by rw [hjb]; omega))]
              simp only [↓sxD, ↓sxP0, ↓sxP3, ↓sxGd, sxP1, sxF, sxA, sxS, sxK, sxG, sxZ, sxH, sxU, encs, tys, sxN, sevalprocAttr, ne_eq, decide_true, decide_false]
              repeat ((with_reducible refine Vc.go ?_ fun _ => ?_); (focus (first | omega | (simp only [InK]; omega) | (simp [InK]; done) | (simp [InK]; omega))); simp only [↓sxD, ↓sxP0, ↓sxP3, ↓sxGd, sxP1, sxF, sxA, sxS, sxK, sxG, sxZ, sxH, sxU, encs, tys, sxN, sevalprocAttr, ne_eq, decide_true, decide_false])
              refine ⟨k + 1, StLe.auto (by simp only [sxS, sxL, sxF, sxG, sxH, sxU, encs, sxN, sevalprocAttr, ne_eq, decide_true, decide_false] <;> (try simp [he, encs]) <;> (try omega)), ?_, ?_⟩
              · omega
              · omega
            · have he : scan l s.left s.now (k + 1) = scan l s.left s.now k := by simp only [scan, hjk]; rw [if_neg hnx, if_neg (by omega), if_neg (by rw [hjb]; omega)]
              simp only [↓sxD, ↓sxP0, ↓sxP3, ↓sxGd, sxP1, sxF, sxA, sxS, sxK, sxG, sxZ, sxH, sxU, encs, tys, sxN, sevalprocAttr, ne_eq, decide_true, decide_false]
              repeat ((with_reducible refine Vc.go ?_ fun _ => ?_); (focus (first | omega | (simp only [InK]; omega) | (simp [InK]; done) | (simp [InK]; omega))); simp only [↓sxD, ↓sxP0, ↓sxP3, ↓sxGd, sxP1, sxF, sxA, sxS, sxK, sxG, sxZ, sxH, sxU, encs, tys, sxN, sevalprocAttr, ne_eq, decide_true, decide_false])
              refine ⟨k + 1, StLe.auto (by simp only [sxS, sxL, sxF, sxG, sxH, sxU, encs, sxN, sevalprocAttr, ne_eq, decide_true, decide_false] <;> (try simp [he, encs]) <;> (try omega)), ?_, ?_⟩
              · omega
              · omega
    · simp only [↓sxD, ↓sxP0, ↓sxP3, ↓sxGd, sxP1, sxF, sxA, sxS, sxK, sxG, sxZ, sxH, sxU, encs, tys, sxN, sevalprocAttr, ne_eq, decide_true, decide_false]
      have hke : k = l.length := by omega
      subst hke
      have hsc : scan l s.left s.now l.length = scn l s := rfl
      rw [hsc]
      refine BrW.dec (fun b1 => ?_) (fun b1 => ?_)
      · simp only [↓sxD, ↓sxP0, ↓sxP3, ↓sxGd, sxP1, sxF, sxA, sxS, sxK, sxG, sxZ, sxH, sxU, encs, tys, sxN, sevalprocAttr, ne_eq, decide_true, decide_false]
        refine BrW.dec (fun x1 => ?_) (fun x1 => ?_)
        · have hst : stp l s = none := by rw [stp, if_pos b1, if_pos x1]
          rw [← hd, duesF_end hst]
          simp only [↓sxD, ↓sxP0, ↓sxP3, ↓sxGd, sxP1, sxF, sxA, sxS, sxK, sxG, sxZ, sxH, sxU, encs, tys, sxN, sevalprocAttr, ne_eq, decide_true, decide_false]
          exact EndW.fn (by simp only [sxL, sxG, sxH, sxU, encs, kpLL_map, sxN, sevalprocAttr, ne_eq, decide_true, decide_false] <;> (try simp) <;> (try omega)) (by simp only [sxL, sxG, sxH, sxU, encs, kpLL_map, sxN, sevalprocAttr, ne_eq, decide_true, decide_false] <;> (try simp) <;> (try omega))
        · have hst : stp l s = some ⟨s.left, s.out, (scn l s).2⟩ := by rw [stp, if_pos b1, if_neg x1]
          obtain ⟨hs', hm'⟩ := stp_ok hj hs hst
          obtain ⟨f', hf', hd'⟩ := duesF_step hst hm' hf
          simp only [↓sxD, ↓sxP0, ↓sxP3, ↓sxGd, sxP1, sxF, sxA, sxS, sxK, sxG, sxZ, sxH, sxU, encs, tys, sxN, sevalprocAttr, ne_eq, decide_true, decide_false]
          refine BrW.yes (by omega) ?_
          simp only [↓sxD, ↓sxP0, ↓sxP3, ↓sxGd, sxP1, sxF, sxA, sxS, sxK, sxG, sxZ, sxH, sxU, encs, tys, sxN, sevalprocAttr, ne_eq, decide_true, decide_false]
          refine ⟨(⟨s.left, s.out, (scn l s).2⟩ : DS), StLe.auto (by simp only [sxS, sxL, sxF, sxG, sxH, sxU, encs, sxN, sevalprocAttr, ne_eq, decide_true, decide_false] <;> (try simp) <;> (try omega)), ?_, ?_⟩
          · exact ⟨hs', f', hf', hd'.trans hd⟩
          · exact hm'
      · have hlb := long_b hs b1
        simp only [↓sxD, ↓sxP0, ↓sxP3, ↓sxGd, sxP1, sxF, sxA, sxS, sxK, sxG, sxZ, sxH, sxU, encs, tys, sxN, sevalprocAttr, ne_eq, decide_true, decide_false]
        refine BrW.no (by omega) ?_
        obtain ⟨q0, q1, q2, q3, q4⟩ := hlb
        have hkl : (scn l s).1.toNat < s.left.length := by have := hs.ll; omega
        have hx := hs.lb _ (List.getElem_mem hkl)
        have hnb := hs.nb
        have hns := hs.ns
        have hos := hs.os
        have hnn := sum_nn fun x hx => (hs.lb x hx).1
        have hsg := sum_get (fun x hx => (hs.lb x hx).1) hkl
        have hg := gd_eq hkl
        have hxb : -1 ≤ (scn l s).2 ∧ (scn l s).2 ≤ 10000000 := by
          rcases scan_next (l := l) (left := s.left) (now := s.now) l.length with h2 | ⟨i, h3, _, _, h6⟩
          · rw [hsc] at h2; omega
          · rw [hsc, jb_eq h3] at h6
            have := hj.ready _ (List.getElem_mem h3); omega
        simp only [↓sxD, ↓sxP0, ↓sxP3, ↓sxGd, sxP1, sxF, sxA, sxS, sxK, sxG, sxZ, sxH, sxU, encs, tys, sxN, sevalprocAttr, ne_eq, decide_true, decide_false]
        repeat ((with_reducible refine Vc.go ?_ fun _ => ?_); (focus (first | omega | (simp only [InK]; omega) | (simp [InK]; done) | (simp [InK]; omega))); simp only [↓sxD, ↓sxP0, ↓sxP3, ↓sxGd, sxP1, sxF, sxA, sxS, sxK, sxG, sxZ, sxH, sxU, encs, tys, sxN, sevalprocAttr, ne_eq, decide_true, decide_false])
        refine IxW.map (s.left[(scn l s).1.toNat]) (by omega) (List.getElem?_eq_getElem hkl) ?_
        simp only [↓sxD, ↓sxP0, ↓sxP3, ↓sxGd, sxP1, sxF, sxA, sxS, sxK, sxG, sxZ, sxH, sxU, encs, tys, sxN, sevalprocAttr, ne_eq, decide_true, decide_false]
        refine BrW.dec (fun xn => ?_) (fun xn => ?_)
        · have hlo : longS l s = min s.left[(scn l s).1.toNat] ((scn l s).2 - s.now) := by rw [longS, if_pos (by omega), hg]
          simp only [↓sxD, ↓sxP0, ↓sxP3, ↓sxGd, sxP1, sxF, sxA, sxS, sxK, sxG, sxZ, sxH, sxU, encs, tys, sxN, sevalprocAttr, ne_eq, decide_true, decide_false]
          repeat ((with_reducible refine Vc.go ?_ fun _ => ?_); (focus (first | omega | (simp only [InK]; omega) | (simp [InK]; done) | (simp [InK]; omega))); simp only [↓sxD, ↓sxP0, ↓sxP3, ↓sxGd, sxP1, sxF, sxA, sxS, sxK, sxG, sxZ, sxH, sxU, encs, tys, sxN, sevalprocAttr, ne_eq, decide_true, decide_false])
          rw [← hlo]
          clear hlo
          have hst : stp l s = some ⟨s.left.set (scn l s).1.toNat (s.left[(scn l s).1.toNat] - longS l s), putS s.out (scn l s).1 s.now (longS l s), s.now + longS l s⟩ := by rw [stp, if_neg b1, hg]
          obtain ⟨hs', hm'⟩ := stp_ok hj hs hst
          obtain ⟨f', hf', hd'⟩ := duesF_step hst hm' hf
          rw [hg] at q3
          refine DrawW.plan Tok mixed (.q 0 <| .q 1 <| .q 2 <| .q 3 <| .q 4 <| .q 5 <| .q 6 <| .q 7 <| .q 8 <| .q 9 <| .q 10 <| .q 11 <| .q 12 <| .q 13 <| .q 14 <| .q 15 <| .q 16 <| .q 17 <| .q 18 <| .q 19 <| .q 20 <| .q 21 <| .q 22 <| .q 23 <| .q 24 <| .q 25 <| .done) (by kernel_rfl) (by kernel_rfl) ?_
          simp only [↓sxD, ↓sxP0, ↓sxP3, ↓sxGd, sxP1, sxF, sxA, sxS, sxK, sxG, sxZ, sxH, sxU, encs, tys, sxN, sevalprocAttr, ne_eq, decide_true, decide_false]
          refine BrW.dec (fun o1 => ?_) (fun o1 => ?_)
          · have hol : s.out.length - 1 < s.out.length := by omega
            have hlast : lastS s.out = s.out[s.out.length - 1] := by simp [lastS, List.getD_eq_getElem?_getD, List.getElem?_eq_getElem hol]
            have hti : ((s.out.length : Int) - 1).toNat = s.out.length - 1 := by omega
            have hox : s.out[((s.out.length : Int) - 1).toNat]? = some s.out[s.out.length - 1] := by rw [hti]; exact List.getElem?_eq_getElem hol
            have hne : s.out ≠ [] := fun e => by rw [e] at hol; simp at hol
            obtain ⟨t1, t2, t3, t4⟩ := hs.ot _ (List.getElem_mem hol)
            simp only [↓sxD, ↓sxP0, ↓sxP3, ↓sxGd, sxP1, sxF, sxA, sxS, sxK, sxG, sxZ, sxH, sxU, encs, tys, sxN, sevalprocAttr, ne_eq, decide_true, decide_false]
            repeat ((with_reducible refine Vc.go ?_ fun _ => ?_); (focus (first | omega | (simp only [InK]; omega) | (simp [InK]; done) | (simp [InK]; omega))); simp only [↓sxD, ↓sxP0, ↓sxP3, ↓sxGd, sxP1, sxF, sxA, sxS, sxK, sxG, sxZ, sxH, sxU, encs, tys, sxN, sevalprocAttr, ne_eq, decide_true, decide_false])
            refine IxW.map (s.out[s.out.length - 1]) (by omega) hox ?_
            simp only [↓sxD, ↓sxP0, ↓sxP3, ↓sxGd, sxP1, sxF, sxA, sxS, sxK, sxG, sxZ, sxH, sxU, encs, tys, sxN, sevalprocAttr, ne_eq, decide_true, decide_false]
            refine BrW.dec (fun o2 => ?_) (fun o2 => ?_)
            · simp only [↓sxD, ↓sxP0, ↓sxP3, ↓sxGd, sxP1, sxF, sxA, sxS, sxK, sxG, sxZ, sxH, sxU, encs, tys, sxN, sevalprocAttr, ne_eq, decide_true, decide_false]
              repeat ((with_reducible refine Vc.go ?_ fun _ => ?_); (focus (first | omega | (simp only [InK]; omega) | (simp [InK]; done) | (simp [InK]; omega))); simp only [↓sxD, ↓sxP0, ↓sxP3, ↓sxGd, sxP1, sxF, sxA, sxS, sxK, sxG, sxZ, sxH, sxU, encs, tys, sxN, sevalprocAttr, ne_eq, decide_true, decide_false])
              refine IxW.map (s.out[s.out.length - 1]) (by omega) hox ?_
              simp only [↓sxD, ↓sxP0, ↓sxP3, ↓sxGd, sxP1, sxF, sxA, sxS, sxK, sxG, sxZ, sxH, sxU, encs, tys, sxN, sevalprocAttr, ne_eq, decide_true, decide_false]
              repeat ((with_reducible refine Vc.go ?_ fun _ => ?_); (focus (first | omega | (simp only [InK]; omega) | (simp [InK]; done) | (simp [InK]; omega))); simp only [↓sxD, ↓sxP0, ↓sxP3, ↓sxGd, sxP1, sxF, sxA, sxS, sxK, sxG, sxZ, sxH, sxU, encs, tys, sxN, sevalprocAttr, ne_eq, decide_true, decide_false])
              refine IxW.map (s.out[s.out.length - 1]) (by omega) hox ?_
              simp only [↓sxD, ↓sxP0, ↓sxP3, ↓sxGd, sxP1, sxF, sxA, sxS, sxK, sxG, sxZ, sxH, sxU, encs, tys, sxN, sevalprocAttr, ne_eq, decide_true, decide_false]
              repeat ((with_reducible refine Vc.go ?_ fun _ => ?_); (focus (first | omega | (simp only [InK]; omega) | (simp [InK]; done) | (simp [InK]; omega))); simp only [↓sxD, ↓sxP0, ↓sxP3, ↓sxGd, sxP1, sxF, sxA, sxS, sxK, sxG, sxZ, sxH, sxU, encs, tys, sxN, sevalprocAttr, ne_eq, decide_true, decide_false])
              refine BrW.dec (fun o3 => ?_) (fun o3 => ?_)
              · simp only [↓sxD, ↓sxP0, ↓sxP3, ↓sxGd, sxP1, sxF, sxA, sxS, sxK, sxG, sxZ, sxH, sxU, encs, tys, sxN, sevalprocAttr, ne_eq, decide_true, decide_false]
                have hput : putS s.out (scn l s).1 s.now (longS l s) = s.out.set (s.out.length - 1) ⟨s.out[s.out.length - 1].job, s.out[s.out.length - 1].start, s.out[s.out.length - 1].minutes + longS l s⟩ := by rw [putS, hlast, if_pos ⟨hne, by omega, by omega⟩]
                rw [hput] at hst hs' hm' hd'
                repeat ((with_reducible refine Vc.go ?_ fun _ => ?_); (focus (first | omega | (simp only [InK]; omega) | (simp [InK]; done) | (simp [InK]; omega))); simp only [↓sxD, ↓sxP0, ↓sxP3, ↓sxGd, sxP1, sxF, sxA, sxS, sxK, sxG, sxZ, sxH, sxU, encs, tys, sxN, sevalprocAttr, ne_eq, decide_true, decide_false])
                refine IxW.map (s.out[s.out.length - 1]) (by omega) hox ?_
                simp only [↓sxD, ↓sxP0, ↓sxP3, ↓sxGd, sxP1, sxF, sxA, sxS, sxK, sxG, sxZ, sxH, sxU, encs, tys, sxN, sevalprocAttr, ne_eq, decide_true, decide_false]
                repeat ((with_reducible refine Vc.go ?_ fun _ => ?_); (focus (first | omega | (simp only [InK]; omega) | (simp [InK]; done) | (simp [InK]; omega))); simp only [↓sxD, ↓sxP0, ↓sxP3, ↓sxGd, sxP1, sxF, sxA, sxS, sxK, sxG, sxZ, sxH, sxU, encs, tys, sxN, sevalprocAttr, ne_eq, decide_true, decide_false])
                refine IxW.map (s.left[(scn l s).1.toNat]) (by omega) (List.getElem?_eq_getElem hkl) ?_
                simp only [↓sxD, ↓sxP0, ↓sxP3, ↓sxGd, sxP1, sxF, sxA, sxS, sxK, sxG, sxZ, sxH, sxU, encs, tys, sxN, sevalprocAttr, ne_eq, decide_true, decide_false]
                repeat ((with_reducible refine Vc.go ?_ fun _ => ?_); (focus (first | omega | (simp only [InK]; omega) | (simp [InK]; done) | (simp [InK]; omega))); simp only [↓sxD, ↓sxP0, ↓sxP3, ↓sxGd, sxP1, sxF, sxA, sxS, sxK, sxG, sxZ, sxH, sxU, encs, tys, sxN, sevalprocAttr, ne_eq, decide_true, decide_false])
                refine ⟨(⟨s.left.set (scn l s).1.toNat (s.left[(scn l s).1.toNat] - longS l s), s.out.set (s.out.length - 1) ⟨s.out[s.out.length - 1].job, s.out[s.out.length - 1].start, s.out[s.out.length - 1].minutes + longS l s⟩, s.now + longS l s⟩ : DS), StLe.auto (by simp only [sxS, sxL, sxF, sxG, sxH, sxU, encs, sxN, sevalprocAttr, ne_eq, decide_true, decide_false] <;> (try simp [modI, hti, modT hol, encs]) <;> (try omega)), ?_, ?_⟩
                · exact ⟨hs', f', hf', hd'.trans hd⟩
                · exact hm'
              · simp only [↓sxD, ↓sxP0, ↓sxP3, ↓sxGd, sxP1, sxF, sxA, sxS, sxK, sxG, sxZ, sxH, sxU, encs, tys, sxN, sevalprocAttr, ne_eq, decide_true, decide_false]
                repeat ((with_reducible refine Vc.go ?_ fun _ => ?_); (focus (first | omega | (simp only [InK]; omega) | (simp [InK]; done) | (simp [InK]; omega))); simp only [↓sxD, ↓sxP0, ↓sxP3, ↓sxGd, sxP1, sxF, sxA, sxS, sxK, sxG, sxZ, sxH, sxU, encs, tys, sxN, sevalprocAttr, ne_eq, decide_true, decide_false])
                have hput : putS s.out (scn l s).1 s.now (longS l s) = s.out ++ [⟨(scn l s).1, s.now, longS l s⟩] := by rw [putS, if_neg (by rw [hlast]; rintro ⟨_, _, h⟩; omega)]
                rw [hput] at hst hs' hm' hd'
                refine IxW.map (s.left[(scn l s).1.toNat]) (by omega) (List.getElem?_eq_getElem hkl) ?_
                simp only [↓sxD, ↓sxP0, ↓sxP3, ↓sxGd, sxP1, sxF, sxA, sxS, sxK, sxG, sxZ, sxH, sxU, encs, tys, sxN, sevalprocAttr, ne_eq, decide_true, decide_false]
                repeat ((with_reducible refine Vc.go ?_ fun _ => ?_); (focus (first | omega | (simp only [InK]; omega) | (simp [InK]; done) | (simp [InK]; omega))); simp only [↓sxD, ↓sxP0, ↓sxP3, ↓sxGd, sxP1, sxF, sxA, sxS, sxK, sxG, sxZ, sxH, sxU, encs, tys, sxN, sevalprocAttr, ne_eq, decide_true, decide_false])
                refine ⟨(⟨s.left.set (scn l s).1.toNat (s.left[(scn l s).1.toNat] - longS l s), s.out ++ [⟨(scn l s).1, s.now, longS l s⟩], s.now + longS l s⟩ : DS), StLe.auto (by simp only [sxS, sxL, sxF, sxG, sxH, sxU, encs, sxN, sevalprocAttr, ne_eq, decide_true, decide_false] <;> (try simp [modI, eT, encs]) <;> (try omega)), ?_, ?_⟩
                · exact ⟨hs', f', hf', hd'.trans hd⟩
                · exact hm'
            · simp only [↓sxD, ↓sxP0, ↓sxP3, ↓sxGd, sxP1, sxF, sxA, sxS, sxK, sxG, sxZ, sxH, sxU, encs, tys, sxN, sevalprocAttr, ne_eq, decide_true, decide_false]
              repeat ((with_reducible refine Vc.go ?_ fun _ => ?_); (focus (first | omega | (simp only [InK]; omega) | (simp [InK]; done) | (simp [InK]; omega))); simp only [↓sxD, ↓sxP0, ↓sxP3, ↓sxGd, sxP1, sxF, sxA, sxS, sxK, sxG, sxZ, sxH, sxU, encs, tys, sxN, sevalprocAttr, ne_eq, decide_true, decide_false])
              have hput : putS s.out (scn l s).1 s.now (longS l s) = s.out ++ [⟨(scn l s).1, s.now, longS l s⟩] := by rw [putS, if_neg (by rw [hlast]; rintro ⟨_, h, _⟩; omega)]
              rw [hput] at hst hs' hm' hd'
              refine IxW.map (s.left[(scn l s).1.toNat]) (by omega) (List.getElem?_eq_getElem hkl) ?_
              simp only [↓sxD, ↓sxP0, ↓sxP3, ↓sxGd, sxP1, sxF, sxA, sxS, sxK, sxG, sxZ, sxH, sxU, encs, tys, sxN, sevalprocAttr, ne_eq, decide_true, decide_false]
              repeat ((with_reducible refine Vc.go ?_ fun _ => ?_); (focus (first | omega | (simp only [InK]; omega) | (simp [InK]; done) | (simp [InK]; omega))); simp only [↓sxD, ↓sxP0, ↓sxP3, ↓sxGd, sxP1, sxF, sxA, sxS, sxK, sxG, sxZ, sxH, sxU, encs, tys, sxN, sevalprocAttr, ne_eq, decide_true, decide_false])
              refine ⟨(⟨s.left.set (scn l s).1.toNat (s.left[(scn l s).1.toNat] - longS l s), s.out ++ [⟨(scn l s).1, s.now, longS l s⟩], s.now + longS l s⟩ : DS), StLe.auto (by simp only [sxS, sxL, sxF, sxG, sxH, sxU, encs, sxN, sevalprocAttr, ne_eq, decide_true, decide_false] <;> (try simp [modI, eT, encs]) <;> (try omega)), ?_, ?_⟩
              · exact ⟨hs', f', hf', hd'.trans hd⟩
              · exact hm'
          · simp only [↓sxD, ↓sxP0, ↓sxP3, ↓sxGd, sxP1, sxF, sxA, sxS, sxK, sxG, sxZ, sxH, sxU, encs, tys, sxN, sevalprocAttr, ne_eq, decide_true, decide_false]
            repeat ((with_reducible refine Vc.go ?_ fun _ => ?_); (focus (first | omega | (simp only [InK]; omega) | (simp [InK]; done) | (simp [InK]; omega))); simp only [↓sxD, ↓sxP0, ↓sxP3, ↓sxGd, sxP1, sxF, sxA, sxS, sxK, sxG, sxZ, sxH, sxU, encs, tys, sxN, sevalprocAttr, ne_eq, decide_true, decide_false])
            have hput : putS s.out (scn l s).1 s.now (longS l s) = s.out ++ [⟨(scn l s).1, s.now, longS l s⟩] := by rw [putS, if_neg (by rintro ⟨h, _⟩; have := List.length_pos_iff.2 h; omega)]
            rw [hput] at hst hs' hm' hd'
            refine IxW.map (s.left[(scn l s).1.toNat]) (by omega) (List.getElem?_eq_getElem hkl) ?_
            simp only [↓sxD, ↓sxP0, ↓sxP3, ↓sxGd, sxP1, sxF, sxA, sxS, sxK, sxG, sxZ, sxH, sxU, encs, tys, sxN, sevalprocAttr, ne_eq, decide_true, decide_false]
            repeat ((with_reducible refine Vc.go ?_ fun _ => ?_); (focus (first | omega | (simp only [InK]; omega) | (simp [InK]; done) | (simp [InK]; omega))); simp only [↓sxD, ↓sxP0, ↓sxP3, ↓sxGd, sxP1, sxF, sxA, sxS, sxK, sxG, sxZ, sxH, sxU, encs, tys, sxN, sevalprocAttr, ne_eq, decide_true, decide_false])
            refine ⟨(⟨s.left.set (scn l s).1.toNat (s.left[(scn l s).1.toNat] - longS l s), s.out ++ [⟨(scn l s).1, s.now, longS l s⟩], s.now + longS l s⟩ : DS), StLe.auto (by simp only [sxS, sxL, sxF, sxG, sxH, sxU, encs, sxN, sevalprocAttr, ne_eq, decide_true, decide_false] <;> (try simp [modI, eT, encs]) <;> (try omega)), ?_, ?_⟩
            · exact ⟨hs', f', hf', hd'.trans hd⟩
            · exact hm'
        · have hlo : longS l s = s.left[(scn l s).1.toNat] := by rw [longS, if_neg (by omega), hg]
          simp only [↓sxD, ↓sxP0, ↓sxP3, ↓sxGd, sxP1, sxF, sxA, sxS, sxK, sxG, sxZ, sxH, sxU, encs, tys, sxN, sevalprocAttr, ne_eq, decide_true, decide_false]
          repeat ((with_reducible refine Vc.go ?_ fun _ => ?_); (focus (first | omega | (simp only [InK]; omega) | (simp [InK]; done) | (simp [InK]; omega))); simp only [↓sxD, ↓sxP0, ↓sxP3, ↓sxGd, sxP1, sxF, sxA, sxS, sxK, sxG, sxZ, sxH, sxU, encs, tys, sxN, sevalprocAttr, ne_eq, decide_true, decide_false])
          rw [← hlo]
          clear hlo
          have hst : stp l s = some ⟨s.left.set (scn l s).1.toNat (s.left[(scn l s).1.toNat] - longS l s), putS s.out (scn l s).1 s.now (longS l s), s.now + longS l s⟩ := by rw [stp, if_neg b1, hg]
          obtain ⟨hs', hm'⟩ := stp_ok hj hs hst
          obtain ⟨f', hf', hd'⟩ := duesF_step hst hm' hf
          rw [hg] at q3
          refine DrawW.plan Tok mixed (.q 0 <| .q 1 <| .q 2 <| .q 3 <| .q 4 <| .q 5 <| .q 6 <| .q 7 <| .q 8 <| .q 9 <| .q 10 <| .q 11 <| .q 12 <| .q 13 <| .q 14 <| .q 15 <| .q 16 <| .q 17 <| .q 18 <| .q 19 <| .q 20 <| .q 21 <| .q 22 <| .q 23 <| .q 24 <| .q 25 <| .done) (by kernel_rfl) (by kernel_rfl) ?_
          simp only [↓sxD, ↓sxP0, ↓sxP3, ↓sxGd, sxP1, sxF, sxA, sxS, sxK, sxG, sxZ, sxH, sxU, encs, tys, sxN, sevalprocAttr, ne_eq, decide_true, decide_false]
          refine BrW.dec (fun o1 => ?_) (fun o1 => ?_)
          · have hol : s.out.length - 1 < s.out.length := by omega
            have hlast : lastS s.out = s.out[s.out.length - 1] := by simp [lastS, List.getD_eq_getElem?_getD, List.getElem?_eq_getElem hol]
            have hti : ((s.out.length : Int) - 1).toNat = s.out.length - 1 := by omega
            have hox : s.out[((s.out.length : Int) - 1).toNat]? = some s.out[s.out.length - 1] := by rw [hti]; exact List.getElem?_eq_getElem hol
            have hne : s.out ≠ [] := fun e => by rw [e] at hol; simp at hol
            obtain ⟨t1, t2, t3, t4⟩ := hs.ot _ (List.getElem_mem hol)
            simp only [↓sxD, ↓sxP0, ↓sxP3, ↓sxGd, sxP1, sxF, sxA, sxS, sxK, sxG, sxZ, sxH, sxU, encs, tys, sxN, sevalprocAttr, ne_eq, decide_true, decide_false]
            repeat ((with_reducible refine Vc.go ?_ fun _ => ?_); (focus (first | omega | (simp only [InK]; omega) | (simp [InK]; done) | (simp [InK]; omega))); simp only [↓sxD, ↓sxP0, ↓sxP3, ↓sxGd, sxP1, sxF, sxA, sxS, sxK, sxG, sxZ, sxH, sxU, encs, tys, sxN, sevalprocAttr, ne_eq, decide_true, decide_false])
            refine IxW.map (s.out[s.out.length - 1]) (by omega) hox ?_
            simp only [↓sxD, ↓sxP0, ↓sxP3, ↓sxGd, sxP1, sxF, sxA, sxS, sxK, sxG, sxZ, sxH, sxU, encs, tys, sxN, sevalprocAttr, ne_eq, decide_true, decide_false]
            refine BrW.dec (fun o2 => ?_) (fun o2 => ?_)
            · simp only [↓sxD, ↓sxP0, ↓sxP3, ↓sxGd, sxP1, sxF, sxA, sxS, sxK, sxG, sxZ, sxH, sxU, encs, tys, sxN, sevalprocAttr, ne_eq, decide_true, decide_false]
              repeat ((with_reducible refine Vc.go ?_ fun _ => ?_); (focus (first | omega | (simp only [InK]; omega) | (simp [InK]; done) | (simp [InK]; omega))); simp only [↓sxD, ↓sxP0, ↓sxP3, ↓sxGd, sxP1, sxF, sxA, sxS, sxK, sxG, sxZ, sxH, sxU, encs, tys, sxN, sevalprocAttr, ne_eq, decide_true, decide_false])
              refine IxW.map (s.out[s.out.length - 1]) (by omega) hox ?_
              simp only [↓sxD, ↓sxP0, ↓sxP3, ↓sxGd, sxP1, sxF, sxA, sxS, sxK, sxG, sxZ, sxH, sxU, encs, tys, sxN, sevalprocAttr, ne_eq, decide_true, decide_false]
              repeat ((with_reducible refine Vc.go ?_ fun _ => ?_); (focus (first | omega | (simp only [InK]; omega) | (simp [InK]; done) | (simp [InK]; omega))); simp only [↓sxD, ↓sxP0, ↓sxP3, ↓sxGd, sxP1, sxF, sxA, sxS, sxK, sxG, sxZ, sxH, sxU, encs, tys, sxN, sevalprocAttr, ne_eq, decide_true, decide_false])
              refine IxW.map (s.out[s.out.length - 1]) (by omega) hox ?_
              simp only [↓sxD, ↓sxP0, ↓sxP3, ↓sxGd, sxP1, sxF, sxA, sxS, sxK, sxG, sxZ, sxH, sxU, encs, tys, sxN, sevalprocAttr, ne_eq, decide_true, decide_false]
              repeat ((with_reducible refine Vc.go ?_ fun _ => ?_); (focus (first | omega | (simp only [InK]; omega) | (simp [InK]; done) | (simp [InK]; omega))); simp only [↓sxD, ↓sxP0, ↓sxP3, ↓sxGd, sxP1, sxF, sxA, sxS, sxK, sxG, sxZ, sxH, sxU, encs, tys, sxN, sevalprocAttr, ne_eq, decide_true, decide_false])
              refine BrW.dec (fun o3 => ?_) (fun o3 => ?_)
              · simp only [↓sxD, ↓sxP0, ↓sxP3, ↓sxGd, sxP1, sxF, sxA, sxS, sxK, sxG, sxZ, sxH, sxU, encs, tys, sxN, sevalprocAttr, ne_eq, decide_true, decide_false]
                have hput : putS s.out (scn l s).1 s.now (longS l s) = s.out.set (s.out.length - 1) ⟨s.out[s.out.length - 1].job, s.out[s.out.length - 1].start, s.out[s.out.length - 1].minutes + longS l s⟩ := by rw [putS, hlast, if_pos ⟨hne, by omega, by omega⟩]
                rw [hput] at hst hs' hm' hd'
                repeat ((with_reducible refine Vc.go ?_ fun _ => ?_); (focus (first | omega | (simp only [InK]; omega) | (simp [InK]; done) | (simp [InK]; omega))); simp only [↓sxD, ↓sxP0, ↓sxP3, ↓sxGd, sxP1, sxF, sxA, sxS, sxK, sxG, sxZ, sxH, sxU, encs, tys, sxN, sevalprocAttr, ne_eq, decide_true, decide_false])
                refine IxW.map (s.out[s.out.length - 1]) (by omega) hox ?_
                simp only [↓sxD, ↓sxP0, ↓sxP3, ↓sxGd, sxP1, sxF, sxA, sxS, sxK, sxG, sxZ, sxH, sxU, encs, tys, sxN, sevalprocAttr, ne_eq, decide_true, decide_false]
                repeat ((with_reducible refine Vc.go ?_ fun _ => ?_); (focus (first | omega | (simp only [InK]; omega) | (simp [InK]; done) | (simp [InK]; omega))); simp only [↓sxD, ↓sxP0, ↓sxP3, ↓sxGd, sxP1, sxF, sxA, sxS, sxK, sxG, sxZ, sxH, sxU, encs, tys, sxN, sevalprocAttr, ne_eq, decide_true, decide_false])
                refine IxW.map (s.left[(scn l s).1.toNat]) (by omega) (List.getElem?_eq_getElem hkl) ?_
                simp only [↓sxD, ↓sxP0, ↓sxP3, ↓sxGd, sxP1, sxF, sxA, sxS, sxK, sxG, sxZ, sxH, sxU, encs, tys, sxN, sevalprocAttr, ne_eq, decide_true, decide_false]
                repeat ((with_reducible refine Vc.go ?_ fun _ => ?_); (focus (first | omega | (simp only [InK]; omega) | (simp [InK]; done) | (simp [InK]; omega))); simp only [↓sxD, ↓sxP0, ↓sxP3, ↓sxGd, sxP1, sxF, sxA, sxS, sxK, sxG, sxZ, sxH, sxU, encs, tys, sxN, sevalprocAttr, ne_eq, decide_true, decide_false])
                refine ⟨(⟨s.left.set (scn l s).1.toNat (s.left[(scn l s).1.toNat] - longS l s), s.out.set (s.out.length - 1) ⟨s.out[s.out.length - 1].job, s.out[s.out.length - 1].start, s.out[s.out.length - 1].minutes + longS l s⟩, s.now + longS l s⟩ : DS), StLe.auto (by simp only [sxS, sxL, sxF, sxG, sxH, sxU, encs, sxN, sevalprocAttr, ne_eq, decide_true, decide_false] <;> (try simp [modI, hti, modT hol, encs]) <;> (try omega)), ?_, ?_⟩
                · exact ⟨hs', f', hf', hd'.trans hd⟩
                · exact hm'
              · simp only [↓sxD, ↓sxP0, ↓sxP3, ↓sxGd, sxP1, sxF, sxA, sxS, sxK, sxG, sxZ, sxH, sxU, encs, tys, sxN, sevalprocAttr, ne_eq, decide_true, decide_false]
                repeat ((with_reducible refine Vc.go ?_ fun _ => ?_); (focus (first | omega | (simp only [InK]; omega) | (simp [InK]; done) | (simp [InK]; omega))); simp only [↓sxD, ↓sxP0, ↓sxP3, ↓sxGd, sxP1, sxF, sxA, sxS, sxK, sxG, sxZ, sxH, sxU, encs, tys, sxN, sevalprocAttr, ne_eq, decide_true, decide_false])
                have hput : putS s.out (scn l s).1 s.now (longS l s) = s.out ++ [⟨(scn l s).1, s.now, longS l s⟩] := by rw [putS, if_neg (by rw [hlast]; rintro ⟨_, _, h⟩; omega)]
                rw [hput] at hst hs' hm' hd'
                refine IxW.map (s.left[(scn l s).1.toNat]) (by omega) (List.getElem?_eq_getElem hkl) ?_
                simp only [↓sxD, ↓sxP0, ↓sxP3, ↓sxGd, sxP1, sxF, sxA, sxS, sxK, sxG, sxZ, sxH, sxU, encs, tys, sxN, sevalprocAttr, ne_eq, decide_true, decide_false]
                repeat ((with_reducible refine Vc.go ?_ fun _ => ?_); (focus (first | omega | (simp only [InK]; omega) | (simp [InK]; done) | (simp [InK]; omega))); simp only [↓sxD, ↓sxP0, ↓sxP3, ↓sxGd, sxP1, sxF, sxA, sxS, sxK, sxG, sxZ, sxH, sxU, encs, tys, sxN, sevalprocAttr, ne_eq, decide_true, decide_false])
                refine ⟨(⟨s.left.set (scn l s).1.toNat (s.left[(scn l s).1.toNat] - longS l s), s.out ++ [⟨(scn l s).1, s.now, longS l s⟩], s.now + longS l s⟩ : DS), StLe.auto (by simp only [sxS, sxL, sxF, sxG, sxH, sxU, encs, sxN, sevalprocAttr, ne_eq, decide_true, decide_false] <;> (try simp [modI, eT, encs]) <;> (try omega)), ?_, ?_⟩
                · exact ⟨hs', f', hf', hd'.trans hd⟩
                · exact hm'
            · simp only [↓sxD, ↓sxP0, ↓sxP3, ↓sxGd, sxP1, sxF, sxA, sxS, sxK, sxG, sxZ, sxH, sxU, encs, tys, sxN, sevalprocAttr, ne_eq, decide_true, decide_false]
              repeat ((with_reducible refine Vc.go ?_ fun _ => ?_); (focus (first | omega | (simp only [InK]; omega) | (simp [InK]; done) | (simp [InK]; omega))); simp only [↓sxD, ↓sxP0, ↓sxP3, ↓sxGd, sxP1, sxF, sxA, sxS, sxK, sxG, sxZ, sxH, sxU, encs, tys, sxN, sevalprocAttr, ne_eq, decide_true, decide_false])
              have hput : putS s.out (scn l s).1 s.now (longS l s) = s.out ++ [⟨(scn l s).1, s.now, longS l s⟩] := by rw [putS, if_neg (by rw [hlast]; rintro ⟨_, h, _⟩; omega)]
              rw [hput] at hst hs' hm' hd'
              refine IxW.map (s.left[(scn l s).1.toNat]) (by omega) (List.getElem?_eq_getElem hkl) ?_
              simp only [↓sxD, ↓sxP0, ↓sxP3, ↓sxGd, sxP1, sxF, sxA, sxS, sxK, sxG, sxZ, sxH, sxU, encs, tys, sxN, sevalprocAttr, ne_eq, decide_true, decide_false]
              repeat ((with_reducible refine Vc.go ?_ fun _ => ?_); (focus (first | omega | (simp only [InK]; omega) | (simp [InK]; done) | (simp [InK]; omega))); simp only [↓sxD, ↓sxP0, ↓sxP3, ↓sxGd, sxP1, sxF, sxA, sxS, sxK, sxG, sxZ, sxH, sxU, encs, tys, sxN, sevalprocAttr, ne_eq, decide_true, decide_false])
              refine ⟨(⟨s.left.set (scn l s).1.toNat (s.left[(scn l s).1.toNat] - longS l s), s.out ++ [⟨(scn l s).1, s.now, longS l s⟩], s.now + longS l s⟩ : DS), StLe.auto (by simp only [sxS, sxL, sxF, sxG, sxH, sxU, encs, sxN, sevalprocAttr, ne_eq, decide_true, decide_false] <;> (try simp [modI, eT, encs]) <;> (try omega)), ?_, ?_⟩
              · exact ⟨hs', f', hf', hd'.trans hd⟩
              · exact hm'
          · simp only [↓sxD, ↓sxP0, ↓sxP3, ↓sxGd, sxP1, sxF, sxA, sxS, sxK, sxG, sxZ, sxH, sxU, encs, tys, sxN, sevalprocAttr, ne_eq, decide_true, decide_false]
            repeat ((with_reducible refine Vc.go ?_ fun _ => ?_); (focus (first | omega | (simp only [InK]; omega) | (simp [InK]; done) | (simp [InK]; omega))); simp only [↓sxD, ↓sxP0, ↓sxP3, ↓sxGd, sxP1, sxF, sxA, sxS, sxK, sxG, sxZ, sxH, sxU, encs, tys, sxN, sevalprocAttr, ne_eq, decide_true, decide_false])
            have hput : putS s.out (scn l s).1 s.now (longS l s) = s.out ++ [⟨(scn l s).1, s.now, longS l s⟩] := by rw [putS, if_neg (by rintro ⟨h, _⟩; have := List.length_pos_iff.2 h; omega)]
            rw [hput] at hst hs' hm' hd'
            refine IxW.map (s.left[(scn l s).1.toNat]) (by omega) (List.getElem?_eq_getElem hkl) ?_
            simp only [↓sxD, ↓sxP0, ↓sxP3, ↓sxGd, sxP1, sxF, sxA, sxS, sxK, sxG, sxZ, sxH, sxU, encs, tys, sxN, sevalprocAttr, ne_eq, decide_true, decide_false]
            repeat ((with_reducible refine Vc.go ?_ fun _ => ?_); (focus (first | omega | (simp only [InK]; omega) | (simp [InK]; done) | (simp [InK]; omega))); simp only [↓sxD, ↓sxP0, ↓sxP3, ↓sxGd, sxP1, sxF, sxA, sxS, sxK, sxG, sxZ, sxH, sxU, encs, tys, sxN, sevalprocAttr, ne_eq, decide_true, decide_false])
            refine ⟨(⟨s.left.set (scn l s).1.toNat (s.left[(scn l s).1.toNat] - longS l s), s.out ++ [⟨(scn l s).1, s.now, longS l s⟩], s.now + longS l s⟩ : DS), StLe.auto (by simp only [sxS, sxL, sxF, sxG, sxH, sxU, encs, sxN, sevalprocAttr, ne_eq, decide_true, decide_false] <;> (try simp [modI, eT, encs]) <;> (try omega)), ?_, ?_⟩
            · exact ⟨hs', f', hf', hd'.trans hd⟩
            · exact hm'
end Go.Proofs.Ytaagelngbbkllaa
