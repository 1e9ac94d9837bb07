/-
  Chapter 9, walks: a schedule is checked.
-/
import Derived.Test.YtaagelngbbkllaaVW38
namespace Go.Proofs.Ytaagelngbbkllaa
open Go Go.Vx
set_option linter.unusedSimpArgs false
set_option linter.unusedVariables false
set_option maxRecDepth 20000
def sumsOk (l : List Job) (s : List Slot) : Prop := ∀ i, i < l.length → doneJ s i = (jb l i).minutes
instance (l : List Job) (s : List Slot) : Decidable (sumsOk l s) := Nat.decidableBallLT _ _
def schErr (l : List Job) (s : List Slot) : Int := if 100 < s.length then 8 else if slE l 0 s = 0 then (if sumsOk l s then 0 else 23) else slE l 0 s
def schE (l : List Job) (s : List Slot) : Int × Int × Int := if schErr l s = 0 then (latE l s, (worL l s : Int), 0) else (0, 0, schErr l s)
theorem slE_at {l : List Job} {s : List Slot} {k : Nat} (h : k < s.length) (ht : slE l (endN 0 (s.take k)) (s.drop k) = slE l 0 s) : slE l 0 s = if slE1 l (endN 0 (s.take k)) s[k] = 0 then slE l (endN 0 (s.take (k + 1))) (s.drop (k + 1)) else slE1 l (endN 0 (s.take k)) s[k] := by
  rw [← ht, List.drop_eq_getElem_cons h, slE, List.take_succ_eq_append_getElem h, endN_append]
theorem slE_pre {l : List Job} {s : List Slot} {k : Nat} (h : slE l 0 (s.take k) = 0) : ∀ t ∈ s.take k, 0 ≤ t.job ∧ t.job < (l.length : Int) := slE_jobs h
def nwK (s : List Slot) (k : Nat) : Int := endN 0 (s.take k)
theorem nwK_succ {s : List Slot} {k : Nat} (h : k < s.length) : nwK s (k + 1) = s[k].start + s[k].minutes := by
  rw [nwK, List.take_succ_eq_append_getElem h, endN_append]; rfl
theorem doneK_b {n : Nat} {s : List Slot} : ∀ k, (hk : k ≤ s.length) → (∀ j (h : j < s.length), j < k → 0 ≤ s[j].minutes ∧ s[j].minutes ≤ 10000) → ∀ x ∈ doneK n s k, 0 ≤ x ∧ x ≤ 10000 * (k : Int)
  | 0, _, _, x, hx => by simp [doneK] at hx; omega
  | k + 1, hk, hb, x, hx => by
    have ih := doneK_b (n := n) k (by omega) fun j h hj => hb j h (by omega)
    have hk1 := hb k hk (by omega)
    rw [doneK_succ hk] at hx
    rcases List.mem_or_eq_of_mem_set hx with hx | rfl
    · have := ih x hx; omega
    · rw [List.getD_eq_getElem?_getD]
      cases h : (doneK n s k)[s[k].job.toNat]? with
      | none => simp; omega
      | some y =>
        have := ih y (List.mem_of_getElem? h)
        simp; omega
def okTo2 (s : List Slot) (n k : Nat) : Prop := ∀ j (h : j < s.length), j < k → (0 ≤ s[j].minutes ∧ s[j].minutes ≤ 10000) ∧ (0 ≤ s[j].start ∧ s[j].start ≤ 20000000) ∧ (0 ≤ s[j].job ∧ s[j].job < (n : Int))
theorem okTo2_succ {s : List Slot} {n k : Nat} (h : okTo2 s n k) (hk : k < s.length) (h1 : 0 ≤ s[k].minutes ∧ s[k].minutes ≤ 10000) (h2 : 0 ≤ s[k].start ∧ s[k].start ≤ 20000000) (h3 : 0 ≤ s[k].job ∧ s[k].job < (n : Int)) : okTo2 s n (k + 1) := fun j hj hjk => by
  by_cases e : j = k
  · subst e; exact ⟨h1, h2, h3⟩
  · exact h j hj (by omega)
theorem okTo2_sl {s : List Slot} {n : Nat} (h : okTo2 s n s.length) : ∀ t ∈ s, SlOk n t := fun t ht => by
  obtain ⟨j, hj, rfl⟩ := List.getElem_of_mem ht
  obtain ⟨a, b, c⟩ := h j hj hj
  exact ⟨c, by omega, by omega⟩
theorem sums_of {l : List Job} {s : List Slot} (h : okTo2 s l.length s.length) {i : Nat} (hi : i < l.length) : (doneK l.length s s.length).getD i 0 = doneJ s i := by
  have := doneK_get (n := l.length) (s := s) (fun t ht => (okTo2_sl h t ht).1) s.length (Nat.le_refl _) i hi
  rwa [List.take_length] at this
theorem checkSchedule_s (b1 b2 : Bool) (l : List Job) (s : List Slot) (hs : s.length ≤ 1000000) : Ctr Try.prog 57 [.sl b1 4 (l.map eJ), .sl b2 3 (s.map eT)] (fun rr => rr = ⟨.tup [(.v (.int .i64 (if jobsErr l = 0 then (schE l s).1 else 0))), (.v (.int .i64 (if jobsErr l = 0 then (schE l s).2.1 else 0))), (.v (.int .i64 (if jobsErr l = 0 then (schE l s).2.2 else jobsErr l)))], []⟩) := by
  have encs0 := encs
  have encs := And.intro encs (And.intro repI repI2)
  refine Ctr.of (rs := [.tmp 4, .tmp 5, .tmp 6]) Tok true Try.func57 rfl rfl rfl rfl (by simp [ofDL]) (fun w0 kp => ?_)
  simp only [↓sxD, ↓sxP0, ↓sxGd, sxP1, sxF, sxA, sxS, sxK, sxG, sxH, sxU, encs, tys, sxN, sevalprocAttr, ne_eq, decide_true, decide_false]
  refine CallI.fn (checkJobs_s b1 l) (by simp only [sxA, sxL, sxF, sxG, sxH, sxU, encs, sxN, sevalprocAttr, ne_eq, decide_true, decide_false] <;> (try simp) <;> (try rfl)) ?_
  simp only [↓sxD, ↓sxP0, ↓sxGd, sxP1, sxF, sxA, sxS, sxK, sxG, sxH, sxU, encs, tys, sxN, sevalprocAttr, ne_eq, decide_true, decide_false]
  refine BrW.dec (fun h1 => ?_) (fun h1 => ?_)
  · have h1 : ¬ jobsErr l = 0 := h1
    rw [if_neg h1, if_neg h1, if_neg h1]
    simp only [↓sxD, ↓sxP0, ↓sxGd, sxP1, sxF, sxA, sxS, sxK, sxG, sxH, sxU, encs, tys, sxN, sevalprocAttr, ne_eq, decide_true, decide_false]
    exact EndW.fn (by simp only [sxL, sxG, sxH, sxU, encs, kpLL_map, sxN, sevalprocAttr, ne_eq, decide_true, decide_false] <;> (try simp) <;> (try omega)) (by simp only [sxL, sxG, sxH, sxU, encs, kpLL_map, sxN, sevalprocAttr, ne_eq, decide_true, decide_false] <;> (try simp) <;> (try omega))
  · have h1 : jobsErr l = 0 := Decidable.not_not.1 h1
    have hj := jobsErr_ok h1
    have hn := hj.n
    have hn0 := hj.n0
    rw [if_pos h1, if_pos h1, if_pos h1]
    simp only [↓sxD, ↓sxP0, ↓sxGd, sxP1, sxF, sxA, sxS, sxK, sxG, sxH, sxU, encs, tys, sxN, sevalprocAttr, ne_eq, decide_true, decide_false]
    refine BrW.dec (fun h2 => ?_) (fun h2 => ?_)
    · have hE : schErr l s = 8 := by rw [schErr, if_pos (by omega)]
      rw [show schE l s = (0, 0, 8) by rw [schE, hE]; rfl]
      simp only [↓sxD, ↓sxP0, ↓sxGd, sxP1, sxF, sxA, sxS, sxK, sxG, sxH, sxU, encs, tys, sxN, sevalprocAttr, ne_eq, decide_true, decide_false]
      exact EndW.fn (by simp only [sxL, sxG, sxH, sxU, encs, kpLL_map, sxN, sevalprocAttr, ne_eq, decide_true, decide_false] <;> (try simp) <;> (try omega)) (by simp only [sxL, sxG, sxH, sxU, encs, kpLL_map, sxN, sevalprocAttr, ne_eq, decide_true, decide_false] <;> (try simp) <;> (try omega))
    · have hE : schErr l s = if slE l 0 s = 0 then (if sumsOk l s then 0 else 23) else slE l 0 s := by rw [schErr, if_neg (by omega)]
      simp only [↓sxD, ↓sxP0, ↓sxGd, sxP1, sxF, sxA, sxS, sxK, sxG, sxH, sxU, encs, tys, sxN, sevalprocAttr, ne_eq, decide_true, decide_false]
      repeat ((with_reducible refine Vc.go ?_ fun _ => ?_); (focus (first | omega | (simp only [InK]; omega) | (simp [InK]; done) | (simp [InK]; omega))); simp only [↓sxD, ↓sxP0, ↓sxGd, sxP1, sxF, sxA, sxS, sxK, sxG, sxH, sxU, encs, tys, sxN, sevalprocAttr, ne_eq, decide_true, decide_false])
      replace encs := encs0
      refine LoopW.comp [0, 1, 8, 9, 27, 28, 29] (by simp only [sxS, sxL, sxF, sxG, sxH, sxU, encs, sxN, sevalprocAttr, ne_eq, decide_true, decide_false] <;> (try simp) <;> (try omega)) ?_
      simp only [sxS, sxF, sxG, sxH, sxU, sxN, sevalprocAttr, ne_eq, decide_true, decide_false]
      refine LoopW.up Tok (fun k : Nat => [(9, (.v (.int .i64 (nwK s k)))), (29, (.v (.int .i64 k)))]) (fun k => []) (fun k => [(0, (doneK l.length s k).map eI)]) (fun k => []) (fun k => (k ≤ s.length ∧ slE l (nwK s k) (s.drop k) = slE l 0 s) ∧ okTo2 s l.length k) (fun k => s.length - k) (0) (by simp only [sxS, sxL, sxF, sxG, sxH, sxU, encs, sxN, sevalprocAttr, ne_eq, decide_true, decide_false] <;> (try simp [doneK, nwK, endN, encs]) <;> (try omega)) ?_ ?_
      · exact ⟨⟨by omega, rfl⟩, fun j h hj => by omega⟩
      rintro k ⟨⟨hk, hJ⟩, hok⟩
      simp only [↓sxD, ↓sxP0, ↓sxGd, sxP1, sxF, sxA, sxS, sxK, sxG, sxH, sxU, encs, tys, sxN, sevalprocAttr, ne_eq, decide_true, decide_false]
      refine BrW.dec (fun hlt => ?_) (fun hlt => ?_)
      · simp only [↓sxD, ↓sxP0, ↓sxGd, sxP1, sxF, sxA, sxS, sxK, sxG, sxH, sxU, encs, tys, sxN, sevalprocAttr, ne_eq, decide_true, decide_false]
        have hlt : k < s.length := by omega
        have hat := slE_at hlt hJ
        rw [show endN 0 (s.take k) = nwK s k from rfl, show endN 0 (s.take (k + 1)) = nwK s (k + 1) from rfl] at hat
        have hns := nwK_succ hlt
        have hdl := doneK_len l.length s k hk
        have hdb := doneK_b (n := l.length) k hk fun j h hj => (hok j h hj).1
        refine IxW.nat hlt ?_
        simp only [↓sxD, ↓sxP0, ↓sxGd, sxP1, sxF, sxA, sxS, sxK, sxG, sxH, sxU, encs, tys, sxN, sevalprocAttr, ne_eq, decide_true, decide_false]
        repeat ((with_reducible refine Vc.go ?_ fun _ => ?_); (focus (first | omega | (simp only [InK]; omega) | (simp [InK]; done) | (simp [InK]; omega))); simp only [↓sxD, ↓sxP0, ↓sxGd, sxP1, sxF, sxA, sxS, sxK, sxG, sxH, sxU, encs, tys, sxN, sevalprocAttr, ne_eq, decide_true, decide_false])
        refine CallI.fn (within_s s[k].job 0 ((l.length : Int) - 1)) (by simp only [sxA, sxL, sxF, sxG, sxH, sxU, encs, sxN, sevalprocAttr, ne_eq, decide_true, decide_false] <;> (try simp) <;> (try rfl)) ?_
        simp only [↓sxD, ↓sxP0, ↓sxGd, sxP1, sxF, sxA, sxS, sxK, sxG, sxH, sxU, encs, tys, sxN, sevalprocAttr, ne_eq, decide_true, decide_false]
        refine BrW.dec (fun q1 => ?_) (fun q1 => ?_)
        · simp only [↓sxD, ↓sxP0, ↓sxGd, sxP1, sxF, sxA, sxS, sxK, sxG, sxH, sxU, encs, tys, sxN, sevalprocAttr, ne_eq, decide_true, decide_false]
          refine CallI.fn (within_s s[k].minutes 1 10000) (by simp only [sxA, sxL, sxF, sxG, sxH, sxU, encs, sxN, sevalprocAttr, ne_eq, decide_true, decide_false] <;> (try simp) <;> (try rfl)) ?_
          simp only [↓sxD, ↓sxP0, ↓sxGd, sxP1, sxF, sxA, sxS, sxK, sxG, sxH, sxU, encs, tys, sxN, sevalprocAttr, ne_eq, decide_true, decide_false]
          refine BrW.dec (fun q2 => ?_) (fun q2 => ?_)
          · simp only [↓sxD, ↓sxP0, ↓sxGd, sxP1, sxF, sxA, sxS, sxK, sxG, sxH, sxU, encs, tys, sxN, sevalprocAttr, ne_eq, decide_true, decide_false]
            refine CallI.fn (within_s s[k].start 0 20000000) (by simp only [sxA, sxL, sxF, sxG, sxH, sxU, encs, sxN, sevalprocAttr, ne_eq, decide_true, decide_false] <;> (try simp) <;> (try rfl)) ?_
            simp only [↓sxD, ↓sxP0, ↓sxGd, sxP1, sxF, sxA, sxS, sxK, sxG, sxH, sxU, encs, tys, sxN, sevalprocAttr, ne_eq, decide_true, decide_false]
            refine BrW.dec (fun q3 => ?_) (fun q3 => ?_)
            · simp only [↓sxD, ↓sxP0, ↓sxGd, sxP1, sxF, sxA, sxS, sxK, sxG, sxH, sxU, encs, tys, sxN, sevalprocAttr, ne_eq, decide_true, decide_false]
              have hjk : s[k].job.toNat < l.length := by omega
              have hjb := jb_eq hjk
              refine DrawW.plan Tok mixed (.q 0 <| .q 1 <| .q 2 <| .q 3 <| .q 4 <| .q 5 <| .q 6 <| .q 7 <| .q 8 <| .q 9 <| .done) (by kernel_rfl) (by kernel_rfl) ?_
              simp only [↓sxD, ↓sxP0, ↓sxGd, sxP1, sxF, sxA, sxS, sxK, sxG, sxH, sxU, encs, tys, sxN, sevalprocAttr, ne_eq, decide_true, decide_false]
              refine IxW.map (l[s[k].job.toNat]) (by omega) (List.getElem?_eq_getElem hjk) ?_
              simp only [↓sxD, ↓sxP0, ↓sxGd, sxP1, sxF, sxA, sxS, sxK, sxG, sxH, sxU, encs, tys, sxN, sevalprocAttr, ne_eq, decide_true, decide_false]
              refine BrW.dec (fun q4 => ?_) (fun q4 => ?_)
              · have he : slE1 l (nwK s k) s[k] = 19 := by rw [slE1, if_pos q1, if_pos ⟨q2, q3⟩, hjb, if_pos q4]
                rw [he, if_neg (by decide)] at hat
                rw [show schE l s = (0, 0, 19) by rw [schE, hE, hat]; rfl]
                simp only [↓sxD, ↓sxP0, ↓sxGd, sxP1, sxF, sxA, sxS, sxK, sxG, sxH, sxU, encs, tys, sxN, sevalprocAttr, ne_eq, decide_true, decide_false]
                exact EndW.fn (by simp only [sxL, sxG, sxH, sxU, encs, kpLL_map, sxN, sevalprocAttr, ne_eq, decide_true, decide_false] <;> (try simp) <;> (try omega)) (by simp only [sxL, sxG, sxH, sxU, encs, kpLL_map, sxN, sevalprocAttr, ne_eq, decide_true, decide_false] <;> (try simp) <;> (try omega))
              · simp only [↓sxD, ↓sxP0, ↓sxGd, sxP1, sxF, sxA, sxS, sxK, sxG, sxH, sxU, encs, tys, sxN, sevalprocAttr, ne_eq, decide_true, decide_false]
                refine BrW.dec (fun q5 => ?_) (fun q5 => ?_)
                · have he : slE1 l (nwK s k) s[k] = 17 := by rw [slE1, if_pos q1, if_pos ⟨q2, q3⟩, hjb, if_neg q4, if_pos q5]
                  rw [he, if_neg (by decide)] at hat
                  rw [show schE l s = (0, 0, 17) by rw [schE, hE, hat]; rfl]
                  simp only [↓sxD, ↓sxP0, ↓sxGd, sxP1, sxF, sxA, sxS, sxK, sxG, sxH, sxU, encs, tys, sxN, sevalprocAttr, ne_eq, decide_true, decide_false]
                  exact EndW.fn (by simp only [sxL, sxG, sxH, sxU, encs, kpLL_map, sxN, sevalprocAttr, ne_eq, decide_true, decide_false] <;> (try simp) <;> (try omega)) (by simp only [sxL, sxG, sxH, sxU, encs, kpLL_map, sxN, sevalprocAttr, ne_eq, decide_true, decide_false] <;> (try simp) <;> (try omega))
                · have he : slE1 l (nwK s k) s[k] = 0 := by rw [slE1, if_pos q1, if_pos ⟨q2, q3⟩, hjb, if_neg q4, if_neg q5]
                  rw [if_pos he] at hat
                  have hjd : s[k].job.toNat < (doneK l.length s k).length := by omega
                  have hdx := hdb _ (List.getElem_mem hjd)
                  have hds := doneK_succ (n := l.length) hlt
                  rw [gd_eq hjd] at hds
                  simp only [↓sxD, ↓sxP0, ↓sxGd, sxP1, sxF, sxA, sxS, sxK, sxG, sxH, sxU, encs, tys, sxN, sevalprocAttr, ne_eq, decide_true, decide_false]
                  refine DrawW.plan Tok mixed (.q 0 <| .q 1 <| .q 2 <| .q 3 <| .q 4 <| .q 5 <| .q 6 <| .q 7 <| .q 8 <| .e 9 [] <| .done) (by kernel_rfl) (by kernel_rfl) ?_
                  simp only [↓sxD, ↓sxP0, ↓sxGd, sxP1, sxF, sxA, sxS, sxK, sxG, sxH, sxU, encs, tys, sxN, sevalprocAttr, ne_eq, decide_true, decide_false]
                  repeat ((with_reducible refine Vc.go ?_ fun _ => ?_); (focus (first | omega | (simp only [InK]; omega) | (simp [InK]; done) | (simp [InK]; omega))); simp only [↓sxD, ↓sxP0, ↓sxGd, sxP1, sxF, sxA, sxS, sxK, sxG, sxH, sxU, encs, tys, sxN, sevalprocAttr, ne_eq, decide_true, decide_false])
                  refine IxW.map ((doneK l.length s k)[s[k].job.toNat]) (by omega) (List.getElem?_eq_getElem hjd) ?_
                  simp only [↓sxD, ↓sxP0, ↓sxGd, sxP1, sxF, sxA, sxS, sxK, sxG, sxH, sxU, encs, tys, sxN, sevalprocAttr, ne_eq, decide_true, decide_false]
                  repeat ((with_reducible refine Vc.go ?_ fun _ => ?_); (focus (first | omega | (simp only [InK]; omega) | (simp [InK]; done) | (simp [InK]; omega))); simp only [↓sxD, ↓sxP0, ↓sxGd, sxP1, sxF, sxA, sxS, sxK, sxG, sxH, sxU, encs, tys, sxN, sevalprocAttr, ne_eq, decide_true, decide_false])
                  refine ⟨k + 1, StLe.auto (by simp only [sxS, sxL, sxF, sxG, sxH, sxU, encs, sxN, sevalprocAttr, ne_eq, decide_true, decide_false] <;> (try simp [hds, hns, modI, encs]) <;> (try omega)), ?_, ?_⟩
                  · exact ⟨⟨hlt, hat.symm⟩, okTo2_succ hok hlt (by omega) q3 (by omega)⟩
                  · omega
            · have he : slE1 l (nwK s k) s[k] = 2 := by rw [slE1, if_pos q1, if_neg (fun h => q3 h.2)]
              rw [he, if_neg (by decide)] at hat
              rw [show schE l s = (0, 0, 2) by rw [schE, hE, hat]; rfl]
              simp only [↓sxD, ↓sxP0, ↓sxGd, sxP1, sxF, sxA, sxS, sxK, sxG, sxH, sxU, encs, tys, sxN, sevalprocAttr, ne_eq, decide_true, decide_false]
              exact EndW.fn (by simp only [sxL, sxG, sxH, sxU, encs, kpLL_map, sxN, sevalprocAttr, ne_eq, decide_true, decide_false] <;> (try simp) <;> (try omega)) (by simp only [sxL, sxG, sxH, sxU, encs, kpLL_map, sxN, sevalprocAttr, ne_eq, decide_true, decide_false] <;> (try simp) <;> (try omega))
          · have he : slE1 l (nwK s k) s[k] = 2 := by rw [slE1, if_pos q1, if_neg (fun h => q2 h.1)]
            rw [he, if_neg (by decide)] at hat
            rw [show schE l s = (0, 0, 2) by rw [schE, hE, hat]; rfl]
            simp only [↓sxD, ↓sxP0, ↓sxGd, sxP1, sxF, sxA, sxS, sxK, sxG, sxH, sxU, encs, tys, sxN, sevalprocAttr, ne_eq, decide_true, decide_false]
            exact EndW.fn (by simp only [sxL, sxG, sxH, sxU, encs, kpLL_map, sxN, sevalprocAttr, ne_eq, decide_true, decide_false] <;> (try simp) <;> (try omega)) (by simp only [sxL, sxG, sxH, sxU, encs, kpLL_map, sxN, sevalprocAttr, ne_eq, decide_true, decide_false] <;> (try simp) <;> (try omega))
        · have he : slE1 l (nwK s k) s[k] = 6 := by rw [slE1, if_neg q1]
          rw [he, if_neg (by decide)] at hat
          rw [show schE l s = (0, 0, 6) by rw [schE, hE, hat]; rfl]
          simp only [↓sxD, ↓sxP0, ↓sxGd, sxP1, sxF, sxA, sxS, sxK, sxG, sxH, sxU, encs, tys, sxN, sevalprocAttr, ne_eq, decide_true, decide_false]
          exact EndW.fn (by simp only [sxL, sxG, sxH, sxU, encs, kpLL_map, sxN, sevalprocAttr, ne_eq, decide_true, decide_false] <;> (try simp) <;> (try omega)) (by simp only [sxL, sxG, sxH, sxU, encs, kpLL_map, sxN, sevalprocAttr, ne_eq, decide_true, decide_false] <;> (try simp) <;> (try omega))
      · simp only [↓sxD, ↓sxP0, ↓sxGd, sxP1, sxF, sxA, sxS, sxK, sxG, sxH, sxU, encs, tys, sxN, sevalprocAttr, ne_eq, decide_true, decide_false]
        have hke : k = s.length := by omega
        subst hke
        rw [List.drop_length] at hJ
        have hz : slE l 0 s = 0 := by rw [← hJ]; rfl
        rw [if_pos hz] at hE
        have hdl := doneK_len l.length s s.length (Nat.le_refl _)
        have hdg : ∀ i (h1 : i < l.length) (h2 : i < (doneK l.length s s.length).length), (doneK l.length s s.length)[i] = doneJ s i := fun i h1 h2 => by
          rw [← sums_of hok h1, gd_eq h2]
        refine LoopW.comp [0, 1, 8, 82, 83, 84] (by simp only [sxS, sxL, sxF, sxG, sxH, sxU, encs, sxN, sevalprocAttr, ne_eq, decide_true, decide_false] <;> (try simp) <;> (try omega)) ?_
        simp only [sxS, sxF, sxG, sxH, sxU, sxN, sevalprocAttr, ne_eq, decide_true, decide_false]
        refine LoopW.up Tok (fun k : Nat => [(84, (.v (.int .i64 k)))]) (fun k => []) (fun k => []) (fun k => []) (fun k => k ≤ l.length ∧ ∀ i, i < k → doneJ s i = (jb l i).minutes) (fun k => l.length - k) (0) (by simp only [sxS, sxL, sxF, sxG, sxH, sxU, encs, sxN, sevalprocAttr, ne_eq, decide_true, decide_false] <;> (try simp) <;> (try omega)) ?_ ?_
        · exact ⟨by omega, fun i hi => by omega⟩
        rintro k ⟨hk, hq⟩
        simp only [↓sxD, ↓sxP0, ↓sxGd, sxP1, sxF, sxA, sxS, sxK, sxG, sxH, sxU, encs, tys, sxN, sevalprocAttr, ne_eq, decide_true, decide_false]
        refine BrW.dec (fun hlt2 => ?_) (fun hlt2 => ?_)
        · simp only [↓sxD, ↓sxP0, ↓sxGd, sxP1, sxF, sxA, sxS, sxK, sxG, sxH, sxU, encs, tys, sxN, sevalprocAttr, ne_eq, decide_true, decide_false]
          have hlt2 : k < l.length := by omega
          have hkd : k < (doneK l.length s s.length).length := by omega
          have hg := hdg k hlt2 hkd
          have hjb := jb_eq hlt2
          refine IxW.nat hlt2 ?_
          simp only [↓sxD, ↓sxP0, ↓sxGd, sxP1, sxF, sxA, sxS, sxK, sxG, sxH, sxU, encs, tys, sxN, sevalprocAttr, ne_eq, decide_true, decide_false]
          refine DrawW.plan Tok mixed (.q 0 <| .q 1 <| .q 2 <| .q 3 <| .q 4 <| .q 5 <| .q 6 <| .done) (by kernel_rfl) (by kernel_rfl) ?_
          simp only [↓sxD, ↓sxP0, ↓sxGd, sxP1, sxF, sxA, sxS, sxK, sxG, sxH, sxU, encs, tys, sxN, sevalprocAttr, ne_eq, decide_true, decide_false]
          repeat ((with_reducible refine Vc.go ?_ fun _ => ?_); (focus (first | omega | (simp only [InK]; omega) | (simp [InK]; done) | (simp [InK]; omega))); simp only [↓sxD, ↓sxP0, ↓sxGd, sxP1, sxF, sxA, sxS, sxK, sxG, sxH, sxU, encs, tys, sxN, sevalprocAttr, ne_eq, decide_true, decide_false])
          refine IxW.nat hkd ?_
          simp only [↓sxD, ↓sxP0, ↓sxGd, sxP1, sxF, sxA, sxS, sxK, sxG, sxH, sxU, encs, tys, sxN, sevalprocAttr, ne_eq, decide_true, decide_false]
          refine BrW.dec (fun q6 => ?_) (fun q6 => ?_)
          · have hno : ¬ sumsOk l s := fun h => q6 (by rw [hg, h k hlt2, hjb])
            rw [if_neg hno] at hE
            rw [show schE l s = (0, 0, 23) by rw [schE, hE]; rfl]
            simp only [↓sxD, ↓sxP0, ↓sxGd, sxP1, sxF, sxA, sxS, sxK, sxG, sxH, sxU, encs, tys, sxN, sevalprocAttr, ne_eq, decide_true, decide_false]
            exact EndW.fn (by simp only [sxL, sxG, sxH, sxU, encs, kpLL_map, sxN, sevalprocAttr, ne_eq, decide_true, decide_false] <;> (try simp) <;> (try omega)) (by simp only [sxL, sxG, sxH, sxU, encs, kpLL_map, sxN, sevalprocAttr, ne_eq, decide_true, decide_false] <;> (try simp) <;> (try omega))
          · have q6 : (doneK l.length s s.length)[k] = l[k].minutes := Decidable.not_not.1 q6
            simp only [↓sxD, ↓sxP0, ↓sxGd, sxP1, sxF, sxA, sxS, sxK, sxG, sxH, sxU, encs, tys, sxN, sevalprocAttr, ne_eq, decide_true, decide_false]
            repeat ((with_reducible refine Vc.go ?_ fun _ => ?_); (focus (first | omega | (simp only [InK]; omega) | (simp [InK]; done) | (simp [InK]; omega))); simp only [↓sxD, ↓sxP0, ↓sxGd, sxP1, sxF, sxA, sxS, sxK, sxG, sxH, sxU, encs, tys, sxN, sevalprocAttr, ne_eq, decide_true, decide_false])
            refine ⟨k + 1, StLe.auto (by simp only [sxS, sxL, sxF, sxG, sxH, sxU, encs, sxN, sevalprocAttr, ne_eq, decide_true, decide_false] <;> (try simp) <;> (try omega)), ?_, ?_⟩
            · refine ⟨hlt2, fun i hi => ?_⟩
              by_cases e : i = k
              · subst e; rw [← hg, q6, hjb]
              · exact hq i (by omega)
            · omega
        · simp only [↓sxD, ↓sxP0, ↓sxGd, sxP1, sxF, sxA, sxS, sxK, sxG, sxH, sxU, encs, tys, sxN, sevalprocAttr, ne_eq, decide_true, decide_false]
          have hke : k = l.length := by omega
          subst hke
          have hso : sumsOk l s := hq
          rw [if_pos hso] at hE
          rw [show schE l s = (latE l s, (worL l s : Int), 0) by rw [schE, hE]; rfl]
          have hla := lateness_s b1 b2 l s hj (okTo2_sl hok) (by omega)
          rw [show lateV l s = .tup [(.v (.int .i64 (latE l s))), (.v (.int .i64 ((worL l s : Int))))] from rfl] at hla
          refine CallI.fn (hla) (by simp only [sxA, sxL, sxF, sxG, sxH, sxU, encs, sxN, sevalprocAttr, ne_eq, decide_true, decide_false] <;> (try simp) <;> (try rfl)) ?_
          simp only [↓sxD, ↓sxP0, ↓sxGd, sxP1, sxF, sxA, sxS, sxK, sxG, sxH, sxU, encs, tys, sxN, sevalprocAttr, ne_eq, decide_true, decide_false]
          exact EndW.fn (by simp only [sxL, sxG, sxH, sxU, encs, kpLL_map, sxN, sevalprocAttr, ne_eq, decide_true, decide_false] <;> (try simp) <;> (try omega)) (by simp only [sxL, sxG, sxH, sxU, encs, kpLL_map, sxN, sevalprocAttr, ne_eq, decide_true, decide_false] <;> (try simp) <;> (try omega))
end Go.Proofs.Ytaagelngbbkllaa
