/-
  Chapter 9, walks: the schedule by dues.
-/
import Derived.Test.YtfojggadhhaleaaGreatDoorVP9D
import Derived.Test.YtfojggadhhaleaaGreatDoorVGD
import Derived.Test.YtfojggadhhaleaaGreatDoorVGC
namespace Go.Proofs.YtfojggadhhaleaaGreatDoor
open Go Go.Vx
set_option linter.unusedSimpArgs false
set_option linter.unusedVariables false
set_option maxRecDepth 20000
def minK (l : List Job) (k : Nat) : List Int := (l.take k).map (·.minutes) ++ List.replicate (l.length - k) 0
theorem minK_succ {l : List Job} {k : Nat} (h : k < l.length) : minK l (k + 1) = (minK l k).set k l[k].minutes := by
  unfold minK
  have e : l.length - k = (l.length - (k + 1)) + 1 := by omega
  rw [List.take_succ_eq_append_getElem h, e, List.replicate_succ, List.map_append, List.set_append_right _ _ (by simp; omega)]
  have e2 : k - (List.map (fun x => x.minutes) (List.take k l)).length = 0 := by simp; omega
  rw [e2]
  simp
theorem minK_len {l : List Job} {k : Nat} (h : k ≤ l.length) : (minK l k).length = l.length := by simp [minK]; omega
theorem minK_all (l : List Job) : minK l l.length = (ds0 l).left := by simp [minK, ds0]
theorem modT {l : List Slot} {i : Nat} (h : i < l.length) (m : Int) : (l.map eT).modify i (fun x => modE x 2 [.v (.int .i64 m)]) = (l.set i ⟨l[i].job, l[i].start, m⟩).map eT := by
  induction l generalizing i with
  | nil => simp at h
  | cons a l ih =>
    cases i with
    | zero => simp [modE, eT]
    | succ i => simpa using ih (i := i) (by simpa using h)
set_option maxHeartbeats 4000000 in
theorem byDues_s (b : Bool) (l : List Job) (hj : JobsOk l) : Ctr Tryz.prog 48 [.sl b 4 (l.map eJ)] (fun rr => rr = ⟨.sl true 3 ((dues l).map eT), []⟩) := by
  have hn0 := hj.n0
  have hn := hj.n
  have encs0 := encs
  have encs := And.intro encs (And.intro repI repI2)
  refine Ctr.of (rs := [.tmp 2]) Tok true Tryz.func48 rfl rfl rfl rfl (by simp [ofDL]) (fun w0 kp => ?_)
  simp only [↓sx0, sxE, encs, sevalprocAttr]
  repeat ((with_reducible refine Vc.go ?_ fun _ => ?_); (focus (first | omega | (simp only [InK]; omega) | (simp [InK]; done) | (simp [InK]; omega))); simp only [↓sx0, sxE, encs, sevalprocAttr])
  replace encs := encs0
  refine LoopW.comp [0, 3, 4, 17, 18, 19] (by simp only [sx2, encs, sxR, sevalprocAttr] <;> (try simp) <;> (try omega)) ?_
  simp only [sx2, sxR, sevalprocAttr]
  refine LoopW.up Tok (fun k : Nat => [(19, (.v (.int .i64 k)))]) (fun k => []) (fun k => [(0, (minK l k).map eI)]) (fun k => []) (fun k => k ≤ l.length) (fun k => l.length - k) (0) (by simp only [sx2, encs, sxR, sevalprocAttr] <;> (try simp [minK, encs]) <;> (try omega)) ?_ ?_
  · omega
  rintro k hk
  simp only [↓sx0, sxE, encs, sevalprocAttr]
  refine BrW.dec (fun hlt => ?_) (fun hlt => ?_)
  · simp only [↓sx0, sxE, encs, sevalprocAttr]
    have hlt : k < l.length := by omega
    have hml := minK_len hk
    refine IxW.nat hlt ?_
    simp only [↓sx0, sxE, encs, sevalprocAttr]
    repeat ((with_reducible refine Vc.go ?_ fun _ => ?_); (focus (first | omega | (simp only [InK]; omega) | (simp [InK]; done) | (simp [InK]; omega))); simp only [↓sx0, sxE, encs, sevalprocAttr])
    refine ⟨k + 1, StLe.auto (by simp only [sx2, encs, sxR, sevalprocAttr] <;> (try simp [minK_succ hlt, modI, encs]) <;> (try omega)), ?_, ?_⟩
    · omega
    · omega
  · simp only [↓sx0, sxE, encs, sevalprocAttr]
    have hke : k = l.length := by omega
    subst hke
    rw [minK_all]
    refine LoopW.comp [0, 3, 4, 7] (by simp only [sx2, encs, sxR, sevalprocAttr] <;> (try simp) <;> (try omega)) ?_
    simp only [sx2, sxR, sevalprocAttr]
    refine LoopW.up Tok (fun s : DS => [(3, .row 1), (7, (.v (.int .i64 s.now)))]) (fun s => []) (fun s => [(0, s.left.map eI)]) (fun s => [.own 129 3 (s.out.map eT)]) (fun s => DOk l s ∧ ∃ f, meas l s ≤ f ∧ duesF l f s = dues l) (fun s => meas l s) (ds0 l) (by simp only [sx2, encs, sxR, sevalprocAttr] <;> (try simp [ds0, encs]) <;> (try omega)) ?_ ?_
    · exact ⟨ds0_ok hj, _, Nat.le_refl _, rfl⟩
    rintro s ⟨hs, f, hf, hd⟩
    simp only [↓sx0, sxE, encs, sevalprocAttr]
    refine LoopW.comp [0, 3, 4, 7, 8, 9, 30, 31, 32] (by simp only [sx2, encs, sxR, sevalprocAttr] <;> (try simp) <;> (try omega)) ?_
    simp only [sx2, sxR, sevalprocAttr]
    refine LoopW.up Tok (fun k : Nat => [(8, (.v (.int .i64 ((scan l s.left s.now k).1)))), (9, (.v (.int .i64 ((scan l s.left s.now k).2)))), (32, (.v (.int .i64 k)))]) (fun k => []) (fun k => []) (fun k => []) (fun k => k ≤ l.length) (fun k => l.length - k) (0) (by simp only [sx2, encs, sxR, sevalprocAttr] <;> (try simp [scan, encs]) <;> (try omega)) ?_ ?_
    · omega
    rintro k hk
    simp only [↓sx0, sxE, encs, sevalprocAttr]
    refine BrW.dec (fun hlt2 => ?_) (fun hlt2 => ?_)
    · simp only [↓sx0, sxE, encs, sevalprocAttr]
      have hklt : k < l.length := by omega
      refine IxW.nat hklt ?_
      simp only [↓sx0, sxE, encs, sevalprocAttr]
      have hkl : k < s.left.length := by have := hs.ll; omega
      have hg := gd_eq hkl
      have hjk := jb_eq hklt
      have hrk := hj.ready _ (List.getElem_mem hklt)
      have hbk := scan_best (l := l) (left := s.left) (now := s.now) k
      repeat ((with_reducible refine Vc.go ?_ fun _ => ?_); (focus (first | omega | (simp only [InK]; omega) | (simp [InK]; done) | (simp [InK]; omega))); simp only [↓sx0, sxE, encs, sevalprocAttr])
      refine IxW.nat hkl ?_
      simp only [↓sx0, sxE, encs, sevalprocAttr]
      refine BrW.dec (fun z => ?_) (fun z => ?_)
      · have he : scan l s.left s.now (k + 1) = scan l s.left s.now k := by simp only [scan]; rw [if_pos (by omega)]
        simp only [↓sx0, sxE, encs, sevalprocAttr]
        repeat ((with_reducible refine Vc.go ?_ fun _ => ?_); (focus (first | omega | (simp only [InK]; omega) | (simp [InK]; done) | (simp [InK]; omega))); simp only [↓sx0, sxE, encs, sevalprocAttr])
        refine ⟨k + 1, StLe.auto (by simp only [sx2, encs, sxR, sevalprocAttr] <;> (try simp [he, encs]) <;> (try omega)), ?_, ?_⟩
        · omega
        · omega
      · simp only [↓sx0, sxE, encs, sevalprocAttr]
        have hnx : ¬ s.left.getD k 0 = 0 := by omega
        refine BrW.dec (fun rn => ?_) (fun rn => ?_)
        · simp only [↓sx0, sxE, encs, sevalprocAttr]
          refine BrW.dec (fun x1 => ?_) (fun x1 => ?_)
          · have he : scan l s.left s.now (k + 1) = ((scan l s.left s.now k).1, l[k].ready) := by simp only [scan, hjk]; rw [if_neg hnx, if_pos (by omega), if_pos (.inl x1)]
            simp only [↓sx0, sxE, encs, sevalprocAttr]
            repeat ((with_reducible refine Vc.go ?_ fun _ => ?_); (focus (first | omega | (simp only [InK]; omega) | (simp [InK]; done) | (simp [InK]; omega))); simp only [↓sx0, sxE, encs, sevalprocAttr])
            refine ⟨k + 1, StLe.auto (by simp only [sx2, encs, sxR, sevalprocAttr] <;> (try simp [he, encs]) <;> (try omega)), ?_, ?_⟩
            · omega
            · omega
          · simp only [↓sx0, sxE, encs, sevalprocAttr]
            refine BrW.dec (fun x2 => ?_) (fun x2 => ?_)
            · have he : scan l s.left s.now (k + 1) = ((scan l s.left s.now k).1, l[k].ready) := by simp only [scan, hjk]; rw [if_neg hnx, if_pos (by omega), if_pos (.inr (by omega))]
              simp only [↓sx0, sxE, encs, sevalprocAttr]
              repeat ((with_reducible refine Vc.go ?_ fun _ => ?_); (focus (first | omega | (simp only [InK]; omega) | (simp [InK]; done) | (simp [InK]; omega))); simp only [↓sx0, sxE, encs, sevalprocAttr])
              refine ⟨k + 1, StLe.auto (by simp only [sx2, encs, sxR, sevalprocAttr] <;> (try simp [he, encs]) <;> (try omega)), ?_, ?_⟩
              · omega
              · omega
            · have he : scan l s.left s.now (k + 1) = scan l s.left s.now k := by simp only [scan, hjk]; rw [if_neg hnx, if_pos (by omega), if_neg (by omega)]
              simp only [↓sx0, sxE, encs, sevalprocAttr]
              repeat ((with_reducible refine Vc.go ?_ fun _ => ?_); (focus (first | omega | (simp only [InK]; omega) | (simp [InK]; done) | (simp [InK]; omega))); simp only [↓sx0, sxE, encs, sevalprocAttr])
              refine ⟨k + 1, StLe.auto (by simp only [sx2, encs, sxR, sevalprocAttr] <;> (try simp [he, encs]) <;> (try omega)), ?_, ?_⟩
              · omega
              · omega
        · simp only [↓sx0, sxE, encs, sevalprocAttr]
          refine DrawW.plan Tok mixed (.q 0 <| .q 1 <| .q 2 <| .q 3 <| .q 4 <| .q 5 <| .q 6 <| .q 7 <| .q 8 <| .q 9 <| .q 10 <| .q 11 <| .q 12 <| .done) (by kernel_rfl) (by kernel_rfl) ?_
          simp only [↓sx0, sxE, encs, sevalprocAttr]
          refine BrW.dec (fun x1 => ?_) (fun x1 => ?_)
          · have he : scan l s.left s.now (k + 1) = ((k : Int), (scan l s.left s.now k).2) := by simp only [scan, hjk]; rw [if_neg hnx, if_neg (by omega), if_pos (.inl x1)]
            simp only [↓sx0, sxE, encs, sevalprocAttr]
            repeat ((with_reducible refine Vc.go ?_ fun _ => ?_); (focus (first | omega | (simp only [InK]; omega) | (simp [InK]; done) | (simp [InK]; omega))); simp only [↓sx0, sxE, encs, sevalprocAttr])
            refine ⟨k + 1, StLe.auto (by simp only [sx2, encs, sxR, sevalprocAttr] <;> (try simp [he, encs]) <;> (try omega)), ?_, ?_⟩
            · omega
            · omega
          · simp only [↓sx0, sxE, encs, sevalprocAttr]
            have hb0 : (scan l s.left s.now k).1.toNat < l.length := by omega
            have hjb := jb_eq hb0
            refine IxW.map (l[(scan l s.left s.now k).1.toNat]) (by omega) (List.getElem?_eq_getElem hb0) ?_
            simp only [↓sx0, sxE, encs, sevalprocAttr]
            refine BrW.dec (fun x2 => ?_) (fun x2 => ?_)
            · have he : scan l s.left s.now (k + 1) = ((k : Int), (scan l s.left s.now k).2) := by simp only [scan, hjk]; rw [if_neg hnx, if_neg (by omega), if_pos (.inr (by rw [hjb]; omega))]
              simp only [↓sx0, sxE, encs, sevalprocAttr]
              repeat ((with_reducible refine Vc.go ?_ fun _ => ?_); (focus (first | omega | (simp only [InK]; omega) | (simp [InK]; done) | (simp [InK]; omega))); simp only [↓sx0, sxE, encs, sevalprocAttr])
              refine ⟨k + 1, StLe.auto (by simp only [sx2, encs, sxR, sevalprocAttr] <;> (try simp [he, encs]) <;> (try omega)), ?_, ?_⟩
              · omega
              · omega
            · have he : scan l s.left s.now (k + 1) = scan l s.left s.now k := by simp only [scan, hjk]; rw [if_neg hnx, if_neg (by omega), if_neg (by rw [hjb]; omega)]
              simp only [↓sx0, sxE, encs, sevalprocAttr]
              repeat ((with_reducible refine Vc.go ?_ fun _ => ?_); (focus (first | omega | (simp only [InK]; omega) | (simp [InK]; done) | (simp [InK]; omega))); simp only [↓sx0, sxE, encs, sevalprocAttr])
              refine ⟨k + 1, StLe.auto (by simp only [sx2, encs, sxR, sevalprocAttr] <;> (try simp [he, encs]) <;> (try omega)), ?_, ?_⟩
              · omega
              · omega
    · simp only [↓sx0, sxE, encs, sevalprocAttr]
      have hke : k = l.length := by omega
      subst hke
      have hsc : scan l s.left s.now l.length = scn l s := rfl
      rw [hsc]
      refine BrW.dec (fun b1 => ?_) (fun b1 => ?_)
      · simp only [↓sx0, sxE, encs, sevalprocAttr]
        refine BrW.dec (fun x1 => ?_) (fun x1 => ?_)
        · have hst : stp l s = none := by rw [stp, if_pos b1, if_pos x1]
          rw [← hd, duesF_end hst]
          simp only [↓sx0, sxE, encs, sevalprocAttr]
          refine EndW.fn ?_ ?_ <;> simp only [sx4, encs, kpLL_map, sxR, sevalprocAttr] <;> (try simp) <;> (try omega)
        · have hst : stp l s = some ⟨s.left, s.out, (scn l s).2⟩ := by rw [stp, if_pos b1, if_neg x1]
          obtain ⟨hs', hm'⟩ := stp_ok hj hs hst
          obtain ⟨f', hf', hd'⟩ := duesF_step hst hm' hf
          simp only [↓sx0, sxE, encs, sevalprocAttr]
          refine BrW.yes (by omega) ?_
          simp only [↓sx0, sxE, encs, sevalprocAttr]
          refine ⟨(⟨s.left, s.out, (scn l s).2⟩ : DS), StLe.auto (by simp only [sx2, encs, sxR, sevalprocAttr] <;> (try simp) <;> (try omega)), ?_, ?_⟩
          · exact ⟨hs', f', hf', hd'.trans hd⟩
          · exact hm'
      · have hlb := long_b hs b1
        simp only [↓sx0, sxE, encs, sevalprocAttr]
        refine BrW.no (by omega) ?_
        obtain ⟨q0, q1, q2, q3, q4⟩ := hlb
        have hkl : (scn l s).1.toNat < s.left.length := by have := hs.ll; omega
        have hx := hs.lb _ (List.getElem_mem hkl)
        have hnb := hs.nb
        have hns := hs.ns
        have hos := hs.os
        have hnn := sum_nn fun x hx => (hs.lb x hx).1
        have hsg := sum_get (fun x hx => (hs.lb x hx).1) hkl
        have hg := gd_eq hkl
        have hxb : -1 ≤ (scn l s).2 ∧ (scn l s).2 ≤ 10000000 := by
          rcases scan_next (l := l) (left := s.left) (now := s.now) l.length with h2 | ⟨i, h3, _, _, h6⟩
          · rw [hsc] at h2; omega
          · rw [hsc, jb_eq h3] at h6
            have := hj.ready _ (List.getElem_mem h3); omega
        simp only [↓sx0, sxE, encs, sevalprocAttr]
        repeat ((with_reducible refine Vc.go ?_ fun _ => ?_); (focus (first | omega | (simp only [InK]; omega) | (simp [InK]; done) | (simp [InK]; omega))); simp only [↓sx0, sxE, encs, sevalprocAttr])
        refine IxW.map (s.left[(scn l s).1.toNat]) (by omega) (List.getElem?_eq_getElem hkl) ?_
        simp only [↓sx0, sxE, encs, sevalprocAttr]
        refine BrW.dec (fun xn => ?_) (fun xn => ?_)
        · have hlo : longS l s = min s.left[(scn l s).1.toNat] ((scn l s).2 - s.now) := by rw [longS, if_pos (by omega), hg]
          simp only [↓sx0, sxE, encs, sevalprocAttr]
          repeat ((with_reducible refine Vc.go ?_ fun _ => ?_); (focus (first | omega | (simp only [InK]; omega) | (simp [InK]; done) | (simp [InK]; omega))); simp only [↓sx0, sxE, encs, sevalprocAttr])
          rw [← hlo]
          clear hlo
          have hst : stp l s = some ⟨s.left.set (scn l s).1.toNat (s.left[(scn l s).1.toNat] - longS l s), putS s.out (scn l s).1 s.now (longS l s), s.now + longS l s⟩ := by rw [stp, if_neg b1, hg]
          obtain ⟨hs', hm'⟩ := stp_ok hj hs hst
          obtain ⟨f', hf', hd'⟩ := duesF_step hst hm' hf
          rw [hg] at q3
          refine DrawW.plan Tok mixed (.q 0 <| .q 1 <| .q 2 <| .q 3 <| .q 4 <| .q 5 <| .q 6 <| .q 7 <| .q 8 <| .q 9 <| .q 10 <| .q 11 <| .q 12 <| .q 13 <| .q 14 <| .q 15 <| .q 16 <| .q 17 <| .q 18 <| .q 19 <| .q 20 <| .q 21 <| .q 22 <| .q 23 <| .q 24 <| .q 25 <| .done) (by kernel_rfl) (by kernel_rfl) ?_
          simp only [↓sx0, sxE, encs, sevalprocAttr]
          refine BrW.dec (fun o1 => ?_) (fun o1 => ?_)
          · have hol : s.out.length - 1 < s.out.length := by omega
            have hlast : lastS s.out = s.out[s.out.length - 1] := by simp [lastS, List.getD_eq_getElem?_getD, List.getElem?_eq_getElem hol]
            have hti : ((s.out.length : Int) - 1).toNat = s.out.length - 1 := by omega
            have hox : s.out[((s.out.length : Int) - 1).toNat]? = some s.out[s.out.length - 1] := by rw [hti]; exact List.getElem?_eq_getElem hol
            have hne : s.out ≠ [] := fun e => by rw [e] at hol; simp at hol
            obtain ⟨t1, t2, t3, t4⟩ := hs.ot _ (List.getElem_mem hol)
            simp only [↓sx0, sxE, encs, sevalprocAttr]
            repeat ((with_reducible refine Vc.go ?_ fun _ => ?_); (focus (first | omega | (simp only [InK]; omega) | (simp [InK]; done) | (simp [InK]; omega))); simp only [↓sx0, sxE, encs, sevalprocAttr])
            refine IxW.map (s.out[s.out.length - 1]) (by omega) hox ?_
            simp only [↓sx0, sxE, encs, sevalprocAttr]
            refine BrW.dec (fun o2 => ?_) (fun o2 => ?_)
            · simp only [↓sx0, sxE, encs, sevalprocAttr]
              repeat ((with_reducible refine Vc.go ?_ fun _ => ?_); (focus (first | omega | (simp only [InK]; omega) | (simp [InK]; done) | (simp [InK]; omega))); simp only [↓sx0, sxE, encs, sevalprocAttr])
              refine IxW.map (s.out[s.out.length - 1]) (by omega) hox ?_
              simp only [↓sx0, sxE, encs, sevalprocAttr]
              repeat ((with_reducible refine Vc.go ?_ fun _ => ?_); (focus (first | omega | (simp only [InK]; omega) | (simp [InK]; done) | (simp [InK]; omega))); simp only [↓sx0, sxE, encs, sevalprocAttr])
              refine IxW.map (s.out[s.out.length - 1]) (by omega) hox ?_
              simp only [↓sx0, sxE, encs, sevalprocAttr]
              repeat ((with_reducible refine Vc.go ?_ fun _ => ?_); (focus (first | omega | (simp only [InK]; omega) | (simp [InK]; done) | (simp [InK]; omega))); simp only [↓sx0, sxE, encs, sevalprocAttr])
              refine BrW.dec (fun o3 => ?_) (fun o3 => ?_)
              · simp only [↓sx0, sxE, encs, sevalprocAttr]
                have hput : putS s.out (scn l s).1 s.now (longS l s) = s.out.set (s.out.length - 1) ⟨s.out[s.out.length - 1].job, s.out[s.out.length - 1].start, s.out[s.out.length - 1].minutes + longS l s⟩ := by rw [putS, hlast, if_pos ⟨hne, by omega, by omega⟩]
                rw [hput] at hst hs' hm' hd'
                repeat ((with_reducible refine Vc.go ?_ fun _ => ?_); (focus (first | omega | (simp only [InK]; omega) | (simp [InK]; done) | (simp [InK]; omega))); simp only [↓sx0, sxE, encs, sevalprocAttr])
                refine IxW.map (s.out[s.out.length - 1]) (by omega) hox ?_
                simp only [↓sx0, sxE, encs, sevalprocAttr]
                repeat ((with_reducible refine Vc.go ?_ fun _ => ?_); (focus (first | omega | (simp only [InK]; omega) | (simp [InK]; done) | (simp [InK]; omega))); simp only [↓sx0, sxE, encs, sevalprocAttr])
                refine IxW.map (s.left[(scn l s).1.toNat]) (by omega) (List.getElem?_eq_getElem hkl) ?_
                simp only [↓sx0, sxE, encs, sevalprocAttr]
                repeat ((with_reducible refine Vc.go ?_ fun _ => ?_); (focus (first | omega | (simp only [InK]; omega) | (simp [InK]; done) | (simp [InK]; omega))); simp only [↓sx0, sxE, encs, sevalprocAttr])
                refine ⟨(⟨s.left.set (scn l s).1.toNat (s.left[(scn l s).1.toNat] - longS l s), s.out.set (s.out.length - 1) ⟨s.out[s.out.length - 1].job, s.out[s.out.length - 1].start, s.out[s.out.length - 1].minutes + longS l s⟩, s.now + longS l s⟩ : DS), StLe.auto (by simp only [sx2, encs, sxR, sevalprocAttr] <;> (try simp [modI, hti, modT hol, encs]) <;> (try omega)), ?_, ?_⟩
                · exact ⟨hs', f', hf', hd'.trans hd⟩
                · exact hm'
              · simp only [↓sx0, sxE, encs, sevalprocAttr]
                repeat ((with_reducible refine Vc.go ?_ fun _ => ?_); (focus (first | omega | (simp only [InK]; omega) | (simp [InK]; done) | (simp [InK]; omega))); simp only [↓sx0, sxE, encs, sevalprocAttr])
                have hput : putS s.out (scn l s).1 s.now (longS l s) = s.out ++ [⟨(scn l s).1, s.now, longS l s⟩] := by rw [putS, if_neg (by rw [hlast]; rintro ⟨_, _, h⟩; omega)]
                rw [hput] at hst hs' hm' hd'
                refine IxW.map (s.left[(scn l s).1.toNat]) (by omega) (List.getElem?_eq_getElem hkl) ?_
                simp only [↓sx0, sxE, encs, sevalprocAttr]
                repeat ((with_reducible refine Vc.go ?_ fun _ => ?_); (focus (first | omega | (simp only [InK]; omega) | (simp [InK]; done) | (simp [InK]; omega))); simp only [↓sx0, sxE, encs, sevalprocAttr])
                refine ⟨(⟨s.left.set (scn l s).1.toNat (s.left[(scn l s).1.toNat] - longS l s), s.out ++ [⟨(scn l s).1, s.now, longS l s⟩], s.now + longS l s⟩ : DS), StLe.auto (by simp only [sx2, encs, sxR, sevalprocAttr] <;> (try simp [modI, eT, encs]) <;> (try omega)), ?_, ?_⟩
                · exact ⟨hs', f', hf', hd'.trans hd⟩
                · exact hm'
            · simp only [↓sx0, sxE, encs, sevalprocAttr]
              repeat ((with_reducible refine Vc.go ?_ fun _ => ?_); (focus (first | omega | (simp only [InK]; omega) | (simp [InK]; done) | (simp [InK]; omega))); simp only [↓sx0, sxE, encs, sevalprocAttr])
              have hput : putS s.out (scn l s).1 s.now (longS l s) = s.out ++ [⟨(scn l s).1, s.now, longS l s⟩] := by rw [putS, if_neg (by rw [hlast]; rintro ⟨_, h, _⟩; omega)]
              rw [hput] at hst hs' hm' hd'
              refine IxW.map (s.left[(scn l s).1.toNat]) (by omega) (List.getElem?_eq_getElem hkl) ?_
              simp only [↓sx0, sxE, encs, sevalprocAttr]
              repeat ((with_reducible refine Vc.go ?_ fun _ => ?_); (focus (first | omega | (simp only [InK]; omega) | (simp [InK]; done) | (simp [InK]; omega))); simp only [↓sx0, sxE, encs, sevalprocAttr])
              refine ⟨(⟨s.left.set (scn l s).1.toNat (s.left[(scn l s).1.toNat] - longS l s), s.out ++ [⟨(scn l s).1, s.now, longS l s⟩], s.now + longS l s⟩ : DS), StLe.auto (by simp only [sx2, encs, sxR, sevalprocAttr] <;> (try simp [modI, eT, encs]) <;> (try omega)), ?_, ?_⟩
              · exact ⟨hs', f', hf', hd'.trans hd⟩
              · exact hm'
          · simp only [↓sx0, sxE, encs, sevalprocAttr]
            repeat ((with_reducible refine Vc.go ?_ fun _ => ?_); (focus (first | omega | (simp only [InK]; omega) | (simp [InK]; done) | (simp [InK]; omega))); simp only [↓sx0, sxE, encs, sevalprocAttr])
            have hput : putS s.out (scn l s).1 s.now (longS l s) = s.out ++ [⟨(scn l s).1, s.now, longS l s⟩] := by rw [putS, if_neg (by rintro ⟨h, _⟩; have := List.length_pos_iff.2 h; omega)]
            rw [hput] at hst hs' hm' hd'
            refine IxW.map (s.left[(scn l s).1.toNat]) (by omega) (List.getElem?_eq_getElem hkl) ?_
            simp only [↓sx0, sxE, encs, sevalprocAttr]
            repeat ((with_reducible refine Vc.go ?_ fun _ => ?_); (focus (first | omega | (simp only [InK]; omega) | (simp [InK]; done) | (simp [InK]; omega))); simp only [↓sx0, sxE, encs, sevalprocAttr])
            refine ⟨(⟨s.left.set (scn l s).1.toNat (s.left[(scn l s).1.toNat] - longS l s), s.out ++ [⟨(scn l s).1, s.now, longS l s⟩], s.now + longS l s⟩ : DS), StLe.auto (by simp only [sx2, encs, sxR, sevalprocAttr] <;> (try simp [modI, eT, encs]) <;> (try omega)), ?_, ?_⟩
            · exact ⟨hs', f', hf', hd'.trans hd⟩
            · exact hm'
        · have hlo : longS l s = s.left[(scn l s).1.toNat] := by rw [longS, if_neg (by omega), hg]
          simp only [↓sx0, sxE, encs, sevalprocAttr]
          repeat ((with_reducible refine Vc.go ?_ fun _ => ?_); (focus (first | omega | (simp only [InK]; omega) | (simp [InK]; done) | (simp [InK]; omega))); simp only [↓sx0, sxE, encs, sevalprocAttr])
          rw [← hlo]
          clear hlo
          have hst : stp l s = some ⟨s.left.set (scn l s).1.toNat (s.left[(scn l s).1.toNat] - longS l s), putS s.out (scn l s).1 s.now (longS l s), s.now + longS l s⟩ := by rw [stp, if_neg b1, hg]
          obtain ⟨hs', hm'⟩ := stp_ok hj hs hst
          obtain ⟨f', hf', hd'⟩ := duesF_step hst hm' hf
          rw [hg] at q3
          refine DrawW.plan Tok mixed (.q 0 <| .q 1 <| .q 2 <| .q 3 <| .q 4 <| .q 5 <| .q 6 <| .q 7 <| .q 8 <| .q 9 <| .q 10 <| .q 11 <| .q 12 <| .q 13 <| .q 14 <| .q 15 <| .q 16 <| .q 17 <| .q 18 <| .q 19 <| .q 20 <| .q 21 <| .q 22 <| .q 23 <| .q 24 <| .q 25 <| .done) (by kernel_rfl) (by kernel_rfl) ?_
          simp only [↓sx0, sxE, encs, sevalprocAttr]
          refine BrW.dec (fun o1 => ?_) (fun o1 => ?_)
          · have hol : s.out.length - 1 < s.out.length := by omega
            have hlast : lastS s.out = s.out[s.out.length - 1] := by simp [lastS, List.getD_eq_getElem?_getD, List.getElem?_eq_getElem hol]
            have hti : ((s.out.length : Int) - 1).toNat = s.out.length - 1 := by omega
            have hox : s.out[((s.out.length : Int) - 1).toNat]? = some s.out[s.out.length - 1] := by rw [hti]; exact List.getElem?_eq_getElem hol
            have hne : s.out ≠ [] := fun e => by rw [e] at hol; simp at hol
            obtain ⟨t1, t2, t3, t4⟩ := hs.ot _ (List.getElem_mem hol)
            simp only [↓sx0, sxE, encs, sevalprocAttr]
            repeat ((with_reducible refine Vc.go ?_ fun _ => ?_); (focus (first | omega | (simp only [InK]; omega) | (simp [InK]; done) | (simp [InK]; omega))); simp only [↓sx0, sxE, encs, sevalprocAttr])
            refine IxW.map (s.out[s.out.length - 1]) (by omega) hox ?_
            simp only [↓sx0, sxE, encs, sevalprocAttr]
            refine BrW.dec (fun o2 => ?_) (fun o2 => ?_)
            · simp only [↓sx0, sxE, encs, sevalprocAttr]
              repeat ((with_reducible refine Vc.go ?_ fun _ => ?_); (focus (first | omega | (simp only [InK]; omega) | (simp [InK]; done) | (simp [InK]; omega))); simp only [↓sx0, sxE, encs, sevalprocAttr])
              refine IxW.map (s.out[s.out.length - 1]) (by omega) hox ?_
              simp only [↓sx0, sxE, encs, sevalprocAttr]
              repeat ((with_reducible refine Vc.go ?_ fun _ => ?_); (focus (first | omega | (simp only [InK]; omega) | (simp [InK]; done) | (simp [InK]; omega))); simp only [↓sx0, sxE, encs, sevalprocAttr])
              refine IxW.map (s.out[s.out.length - 1]) (by omega) hox ?_
              simp only [↓sx0, sxE, encs, sevalprocAttr]
              repeat ((with_reducible refine Vc.go ?_ fun _ => ?_); (focus (first | omega | (simp only [InK]; omega) | (simp [InK]; done) | (simp [InK]; omega))); simp only [↓sx0, sxE, encs, sevalprocAttr])
              refine BrW.dec (fun o3 => ?_) (fun o3 => ?_)
              · simp only [↓sx0, sxE, encs, sevalprocAttr]
                have hput : putS s.out (scn l s).1 s.now (longS l s) = s.out.set (s.out.length - 1) ⟨s.out[s.out.length - 1].job, s.out[s.out.length - 1].start, s.out[s.out.length - 1].minutes + longS l s⟩ := by rw [putS, hlast, if_pos ⟨hne, by omega, by omega⟩]
                rw [hput] at hst hs' hm' hd'
                repeat ((with_reducible refine Vc.go ?_ fun _ => ?_); (focus (first | omega | (simp only [InK]; omega) | (simp [InK]; done) | (simp [InK]; omega))); simp only [↓sx0, sxE, encs, sevalprocAttr])
                refine IxW.map (s.out[s.out.length - 1]) (by omega) hox ?_
                simp only [↓sx0, sxE, encs, sevalprocAttr]
                repeat ((with_reducible refine Vc.go ?_ fun _ => ?_); (focus (first | omega | (simp only [InK]; omega) | (simp [InK]; done) | (simp [InK]; omega))); simp only [↓sx0, sxE, encs, sevalprocAttr])
                refine IxW.map (s.left[(scn l s).1.toNat]) (by omega) (List.getElem?_eq_getElem hkl) ?_
                simp only [↓sx0, sxE, encs, sevalprocAttr]
                repeat ((with_reducible refine Vc.go ?_ fun _ => ?_); (focus (first | omega | (simp only [InK]; omega) | (simp [InK]; done) | (simp [InK]; omega))); simp only [↓sx0, sxE, encs, sevalprocAttr])
                refine ⟨(⟨s.left.set (scn l s).1.toNat (s.left[(scn l s).1.toNat] - longS l s), s.out.set (s.out.length - 1) ⟨s.out[s.out.length - 1].job, s.out[s.out.length - 1].start, s.out[s.out.length - 1].minutes + longS l s⟩, s.now + longS l s⟩ : DS), StLe.auto (by simp only [sx2, encs, sxR, sevalprocAttr] <;> (try simp [modI, hti, modT hol, encs]) <;> (try omega)), ?_, ?_⟩
                · exact ⟨hs', f', hf', hd'.trans hd⟩
                · exact hm'
              · simp only [↓sx0, sxE, encs, sevalprocAttr]
                repeat ((with_reducible refine Vc.go ?_ fun _ => ?_); (focus (first | omega | (simp only [InK]; omega) | (simp [InK]; done) | (simp [InK]; omega))); simp only [↓sx0, sxE, encs, sevalprocAttr])
                have hput : putS s.out (scn l s).1 s.now (longS l s) = s.out ++ [⟨(scn l s).1, s.now, longS l s⟩] := by rw [putS, if_neg (by rw [hlast]; rintro ⟨_, _, h⟩; omega)]
                rw [hput] at hst hs' hm' hd'
                refine IxW.map (s.left[(scn l s).1.toNat]) (by omega) (List.getElem?_eq_getElem hkl) ?_
                simp only [↓sx0, sxE, encs, sevalprocAttr]
                repeat ((with_reducible refine Vc.go ?_ fun _ => ?_); (focus (first | omega | (simp only [InK]; omega) | (simp [InK]; done) | (simp [InK]; omega))); simp only [↓sx0, sxE, encs, sevalprocAttr])
                refine ⟨(⟨s.left.set (scn l s).1.toNat (s.left[(scn l s).1.toNat] - longS l s), s.out ++ [⟨(scn l s).1, s.now, longS l s⟩], s.now + longS l s⟩ : DS), StLe.auto (by simp only [sx2, encs, sxR, sevalprocAttr] <;> (try simp [modI, eT, encs]) <;> (try omega)), ?_, ?_⟩
                · exact ⟨hs', f', hf', hd'.trans hd⟩
                · exact hm'
            · simp only [↓sx0, sxE, encs, sevalprocAttr]
              repeat ((with_reducible refine Vc.go ?_ fun _ => ?_); (focus (first | omega | (simp only [InK]; omega) | (simp [InK]; done) | (simp [InK]; omega))); simp only [↓sx0, sxE, encs, sevalprocAttr])
              have hput : putS s.out (scn l s).1 s.now (longS l s) = s.out ++ [⟨(scn l s).1, s.now, longS l s⟩] := by rw [putS, if_neg (by rw [hlast]; rintro ⟨_, h, _⟩; omega)]
              rw [hput] at hst hs' hm' hd'
              refine IxW.map (s.left[(scn l s).1.toNat]) (by omega) (List.getElem?_eq_getElem hkl) ?_
              simp only [↓sx0, sxE, encs, sevalprocAttr]
              repeat ((with_reducible refine Vc.go ?_ fun _ => ?_); (focus (first | omega | (simp only [InK]; omega) | (simp [InK]; done) | (simp [InK]; omega))); simp only [↓sx0, sxE, encs, sevalprocAttr])
              refine ⟨(⟨s.left.set (scn l s).1.toNat (s.left[(scn l s).1.toNat] - longS l s), s.out ++ [⟨(scn l s).1, s.now, longS l s⟩], s.now + longS l s⟩ : DS), StLe.auto (by simp only [sx2, encs, sxR, sevalprocAttr] <;> (try simp [modI, eT, encs]) <;> (try omega)), ?_, ?_⟩
              · exact ⟨hs', f', hf', hd'.trans hd⟩
              · exact hm'
          · simp only [↓sx0, sxE, encs, sevalprocAttr]
            repeat ((with_reducible refine Vc.go ?_ fun _ => ?_); (focus (first | omega | (simp only [InK]; omega) | (simp [InK]; done) | (simp [InK]; omega))); simp only [↓sx0, sxE, encs, sevalprocAttr])
            have hput : putS s.out (scn l s).1 s.now (longS l s) = s.out ++ [⟨(scn l s).1, s.now, longS l s⟩] := by rw [putS, if_neg (by rintro ⟨h, _⟩; have := List.length_pos_iff.2 h; omega)]
            rw [hput] at hst hs' hm' hd'
            refine IxW.map (s.left[(scn l s).1.toNat]) (by omega) (List.getElem?_eq_getElem hkl) ?_
            simp only [↓sx0, sxE, encs, sevalprocAttr]
            repeat ((with_reducible refine Vc.go ?_ fun _ => ?_); (focus (first | omega | (simp only [InK]; omega) | (simp [InK]; done) | (simp [InK]; omega))); simp only [↓sx0, sxE, encs, sevalprocAttr])
            refine ⟨(⟨s.left.set (scn l s).1.toNat (s.left[(scn l s).1.toNat] - longS l s), s.out ++ [⟨(scn l s).1, s.now, longS l s⟩], s.now + longS l s⟩ : DS), StLe.auto (by simp only [sx2, encs, sxR, sevalprocAttr] <;> (try simp [modI, eT, encs]) <;> (try omega)), ?_, ?_⟩
            · exact ⟨hs', f', hf', hd'.trans hd⟩
            · exact hm'
end Go.Proofs.YtfojggadhhaleaaGreatDoor
/-
  Chapter 9, walks: the schedule.
-/
namespace Go.Proofs.YtfojggadhhaleaaGreatDoor
open Go Go.Vx
set_option linter.unusedSimpArgs false
set_option linter.unusedVariables false
set_option maxRecDepth 20000
theorem duesF_ok {l : List Job} (hj : JobsOk l) : ∀ (f : Nat) (s : DS), DOk l s → (∀ t ∈ duesF l f s, SlOk l.length t) ∧ (duesF l f s).length ≤ 200000
  | 0, s, h => by
    have hnn := sum_nn fun x hx => (h.lb x hx).1
    refine ⟨fun t ht => ?_, by simp only [duesF]; have := h.os; omega⟩
    obtain ⟨a, b, c, d⟩ := h.ot t ht
    have := h.ns
    exact ⟨a, by omega, by omega⟩
  | f + 1, s, h => by
    cases hs : stp l s with
    | none =>
      rw [duesF_end hs]
      exact duesF_ok hj 0 s h
    | some s' =>
      simp only [duesF, hs]
      exact duesF_ok hj f s' (stp_ok hj h hs).1
theorem dues_ok {l : List Job} (hj : JobsOk l) : (∀ t ∈ dues l, SlOk l.length t) ∧ (dues l).length ≤ 200000 := duesF_ok hj _ _ (ds0_ok hj)
theorem setsL_mem {l : List Job} {s : List Int} (h : s ∈ setsL l) : 0 < s.length ∧ s.length ≤ l.length ∧ ∀ i ∈ s, 0 ≤ i ∧ i < (l.length : Int) := by
  simp only [setsL, setsO, setsI, List.mem_flatMap] at h
  obtain ⟨a, _, b, _, h⟩ := h
  unfold setP at h
  split at h
  · cases h
  · rename_i hne
    rw [List.mem_singleton] at h; subst h
    exact ⟨List.length_pos_iff.2 hne, setK_len _, fun i hi => setK_mem (Nat.le_refl _) hi⟩
def lateE (l : List Job) : Int := (lateL l (endsK l.length (dues l) (dues l).length)).getD (worK (lateL l (endsK l.length (dues l) (dues l).length)) l.length) 0
def fstS (l : List Job) : List Int := ((setsL l).find? fun s => decide (bndE l s = lateE l)).getD []
def schedV (l : List Job) : SV := if jobsErr l = 0 then .tup [.sl true 3 ((dues l).map eT), (.v (.int .i64 (lateE l))), .sl true 1 ((fstS l).map eI), (.v (.int .i64 0))] else .tup [.sl true 3 [], (.v (.int .i64 0)), .sl true 1 [], (.v (.int .i64 (jobsErr l)))]
theorem eO_inj {a b : List Int} (h : eO a = eO b) : a = b := by
  simp only [eO, List.cons.injEq, SV.sl.injEq, true_and, and_true] at h
  exact (List.map_inj_right (fun _ _ h => eI_inj h)).1 h
theorem schedule_s (l : List Job) : Ctr Tryz.prog 18 [.sl true 4 (l.map eJ)] (fun rr => rr = ⟨schedV l, []⟩) := by
  have encs := And.intro encs setC_eq
  refine Ctr.of (rs := [.tmp 2, .tmp 3, .tmp 4, .tmp 5]) Tok true Tryz.func18 rfl rfl rfl rfl (by simp [ofDL]) (fun w0 kp => ?_)
  simp only [↓sx0, sxE, encs, sevalprocAttr]
  refine CallI.fn (checkJobs_s true l) (by simp only [sx3, encs, sxR, sevalprocAttr] <;> (try simp) <;> (try rfl)) ?_
  simp only [↓sx0, sxE, encs, sevalprocAttr]
  refine BrW.dec (fun h1 => ?_) (fun h1 => ?_)
  · simp only [↓sx0, sxE, encs, sevalprocAttr]
    have h1 : ¬ jobsErr l = 0 := h1
    rw [show schedV l = .tup [.sl true 3 [], (.v (.int .i64 0)), .sl true 1 [], (.v (.int .i64 (jobsErr l)))] by rw [schedV, if_neg h1]]
    refine EndW.fn ?_ ?_ <;> simp only [sx4, encs, kpLL_map, sxR, sevalprocAttr] <;> (try simp) <;> (try omega)
  · simp only [↓sx0, sxE, encs, sevalprocAttr]
    have h1 : jobsErr l = 0 := Decidable.not_not.1 h1
    have hj := jobsErr_ok h1
    have hd := dues_ok hj
    have hn := hj.n
    rw [show schedV l = .tup [.sl true 3 ((dues l).map eT), (.v (.int .i64 (lateE l))), .sl true 1 ((fstS l).map eI), (.v (.int .i64 0))] by rw [schedV, if_pos h1]]
    refine CallI.fn (byDues_s true l hj) (by simp only [sx3, encs, sxR, sevalprocAttr] <;> (try simp) <;> (try rfl)) ?_
    simp only [↓sx0, sxE, encs, sevalprocAttr]
    have hla := lateness_s true true l (dues l) hj hd.1 (by omega)
    have hlv : lateV l (dues l) = .tup [(.v (.int .i64 (lateE l))), (.v (.int .i64 (worK (lateL l (endsK l.length (dues l) (dues l).length)) l.length)))] := rfl
    rw [hlv] at hla
    refine CallI.fn (hla) (by simp only [sx3, encs, sxR, sevalprocAttr] <;> (try simp) <;> (try rfl)) ?_
    simp only [↓sx0, sxE, encs, sevalprocAttr]
    refine CallI.fn (sets_s l) (by simp only [sx3, encs, sxR, sevalprocAttr] <;> (try simp) <;> (try rfl)) ?_
    simp only [↓sx0, sxE, encs, sevalprocAttr]
    have hit := setsIt_s l hj
    have encs := And.intro encs (show ∀ o, eO o = [.sl true 1 (o.map eI)] from fun _ => rfl)
    refine RangeW.it Tok (fun _ => rfl) (fun hro => by first | rfl | exact (by rw [hro] at *; contradiction)) (hit) [(1, .box 0 0), (7, .sl true 3 ((dues l).map eT)), (8, .box 1 0), (10, .box 2 0), (26, .clo 73 (setC l))] (fun ys => [some ⟨60, [.sl true 4 (l.map eJ)]⟩, some ⟨3, [(.v (.int .i64 (lateE l)))]⟩, some ⟨49, [.v (.slice none 0 0)]⟩]) (fun ys => []) (fun ys => ∀ s : List Int, eO s ∈ ys → bndE l s ≠ lateE l) (fun s h => absurd h (List.not_mem_nil)) (by simp only [sx2, encs, sxR, sevalprocAttr] <;> (try simp) <;> (try omega)) rfl rfl (by simp [eO]) ?_ (fun hJall => ?_)
    · rintro pre d hpre hJ ρ σ μ ho' hy hs
      obtain ⟨q, hq⟩ := hpre
      have hk : pre.length < (setsL l).length := by
        have := congrArg List.length hq
        simp at this; omega
      have hde : d = eO (setsL l)[pre.length] := by
        have : ((setsL l).map eO)[pre.length]? = some d := by rw [← hq]; simp
        simpa [List.getElem?_eq_getElem hk, eq_comm] using this
      have hpe : pre = ((setsL l).take pre.length).map eO := by
        rw [List.map_take, ← hq]; simp
      have hpm : ∀ x, x ∈ ((setsL l).take pre.length).map eO → x ∈ pre := fun x hx => by rw [hpe]; exact hx
      subst hde
      obtain ⟨m1, m2, m3⟩ := setsL_mem (show (setsL l)[pre.length] ∈ setsL l from List.getElem_mem hk)
      obtain ⟨yd', ro, mks, fr, lp, sz⟩ := ho'
      simp only [↓sx0, sxE, encs, sevalprocAttr]
      intro fr'
      refine DrawW.plan Tok mixed (.q 0 <| .q 1 <| .q 3 <| .e 2 [3] <| .q 4 <| .done) (by kernel_rfl) (by kernel_rfl) ?_
      simp only [↓sx0, sxE, encs, sevalprocAttr]
      refine CallI.fn (bound_s true true l (setsL l)[pre.length] hj m1 (by omega) m3) (by simp only [sx3, encs, sxR, sevalprocAttr] <;> (try simp) <;> (try rfl)) ?_
      simp only [↓sx0, sxE, encs, sevalprocAttr]
      refine BrW.dec (fun hm => ?_) (fun hm => ?_)
      · have hf : fstS l = (setsL l)[pre.length] := by
          have e : (setsL l).find? (fun s => decide (bndE l s = lateE l)) = some (setsL l)[pre.length] := by
            rw [List.find?_eq_some_iff_getElem]
            refine ⟨by simpa using hm, pre.length, hk, rfl, fun j hj' => ?_⟩
            have := hJ (setsL l)[j] (hpm _ (List.mem_map_of_mem (List.mem_take_iff_getElem.2 ⟨j, by omega, rfl⟩)))
            simpa using this
          rw [fstS, e]; rfl
        simp only [↓sx0, sxE, encs, sevalprocAttr]
        rw [hf]
        refine DrawW.plan Tok mixed (.q 0 <| .q 1 <| .q 2 <| .q 3 <| .q 4 <| .q 5 <| .q 6 <| .done) (by kernel_rfl) (by kernel_rfl) ?_
        simp only [↓sx0, sxE, encs, sevalprocAttr]
        refine EndW.fn ?_ ?_ <;> simp only [sx4, encs, kpLL_map, sxR, sevalprocAttr] <;> (try simp) <;> (try omega)
      · simp only [↓sx0, sxE, encs, sevalprocAttr]
        refine ⟨fun s hs' => ?_, ?_⟩
        · rcases List.mem_append.1 hs' with h | h
          · exact hJ s h
          · rw [List.mem_singleton] at h
            rw [eO_inj h]
            exact hm
        · simp only [sx2, encs, sxR, sevalprocAttr] <;> (try simp) <;> (try omega)
    · have hf : fstS l = [] := by
        have e : (setsL l).find? (fun s => decide (bndE l s = lateE l)) = none := by
          rw [List.find?_eq_none]
          intro s hs
          simpa using hJall s (List.mem_map_of_mem hs)
        rw [fstS, e]; rfl
      rw [hf]
      simp only [↓sx0, sxE, encs, sevalprocAttr]
      refine DrawW.plan Tok mixed (.q 0 <| .q 1 <| .q 2 <| .q 3 <| .q 4 <| .q 5 <| .q 6 <| .done) (by kernel_rfl) (by kernel_rfl) ?_
      simp only [↓sx0, sxE, encs, sevalprocAttr]
      refine EndW.fn ?_ ?_ <;> simp only [sx4, encs, kpLL_map, sxR, sevalprocAttr] <;> (try simp) <;> (try omega)
end Go.Proofs.YtfojggadhhaleaaGreatDoor
/-
  Chapter 9, walks: the samples of the law; it is awake.
-/
namespace Go.Proofs.YtfojggadhhaleaaGreatDoor
open Go Go.Vx
set_option linter.unusedSimpArgs false
set_option linter.unusedVariables false
set_option maxRecDepth 20000
theorem ints_s (b b' : Bool) (l m : List Int) (hl : l.length ≤ 1000000000) : Ctr Tryz.prog 20 [.sl b 1 (l.map eI), .sl b' 1 (m.map eI)] (fun rr => rr = ⟨(.v (.bool (decide (l = m)))), []⟩) := by
  refine Ctr.of (rs := [.tmp 4]) Tok true Tryz.func20 rfl rfl rfl rfl (by simp [ofDL]) (fun w0 kp => ?_)
  simp only [↓sx0, sxE, encs, sevalprocAttr]
  refine BrW.dec (fun hn => ?_) (fun hn => ?_)
  · simp only [↓sx0, sxE, encs, sevalprocAttr]
    have : ¬ l = m := fun h => hn (by rw [h])
    refine EndW.fn ?_ ?_ <;> simp only [sx4, encs, kpLL_map, sxR, sevalprocAttr] <;> (try simp [this]) <;> (try omega)
  · simp only [↓sx0, sxE, encs, sevalprocAttr]
    have hn2 : l.length = m.length := by omega
    refine LoopW.comp [0, 1, 5] (by simp only [sx2, encs, sxR, sevalprocAttr] <;> (try simp) <;> (try omega)) ?_
    simp only [sx2, sxR, sevalprocAttr]
    refine LoopW.up Tok (fun k : Nat => [(5, (.v (.int .i64 k)))]) (fun k => []) (fun k => []) (fun k => []) (fun k => k ≤ l.length ∧ l.take k = m.take k) (fun k => l.length - k) (0) (by simp only [sx2, encs, sxR, sevalprocAttr] <;> (try simp) <;> (try omega)) ?_ ?_
    · exact ⟨by omega, by simp⟩
    rintro k ⟨hk, ht⟩
    simp only [↓sx0, sxE, encs, sevalprocAttr]
    refine BrW.dec (fun hlt => ?_) (fun hlt => ?_)
    · simp only [↓sx0, sxE, encs, sevalprocAttr]
      have h1 : k < l.length := by omega
      have h2 : k < m.length := by omega
      refine DrawW.plan Tok mixed (.q 0 <| .q 1 <| .q 2 <| .q 3 <| .q 4 <| .q 5 <| .q 6 <| .q 7 <| .q 8 <| .done) (by kernel_rfl) (by kernel_rfl) ?_
      simp only [↓sx0, sxE, encs, sevalprocAttr]
      refine IxW.nat h1 ?_
      simp only [↓sx0, sxE, encs, sevalprocAttr]
      refine IxW.nat h2 ?_
      simp only [↓sx0, sxE, encs, sevalprocAttr]
      refine BrW.dec (fun hne => ?_) (fun hne => ?_)
      · simp only [↓sx0, sxE, encs, sevalprocAttr]
        have : ¬ l = m := fun h => hne (by subst h; rfl)
        refine EndW.fn ?_ ?_ <;> simp only [sx4, encs, kpLL_map, sxR, sevalprocAttr] <;> (try simp [this]) <;> (try omega)
      · simp only [↓sx0, sxE, encs, sevalprocAttr]
        have he : l[k] = m[k] := by exact Decidable.not_not.1 hne
        (with_reducible refine Vc.go ?_ fun _ => ?_); focus (first | omega | (simp only [InK]; omega) | (simp [InK]; done) | (simp [InK]; omega))
        simp only [↓sx0, sxE, encs, sevalprocAttr]
        refine ⟨k + 1, StLe.auto (by simp only [sx2, encs, sxR, sevalprocAttr] <;> (try simp) <;> (try omega)), ?_, ?_⟩
        · exact ⟨h1, take_eq_succ h1 h2 ht he⟩
        · omega
    · simp only [↓sx0, sxE, encs, sevalprocAttr]
      have hke : k = l.length := by omega
      subst hke
      rw [List.take_length, hn2, List.take_length] at ht
      refine EndW.fn ?_ ?_ <;> simp only [sx4, encs, kpLL_map, sxR, sevalprocAttr] <;> (try simp [ht]) <;> (try omega)
def posterR : Run := ⟨⟨#[112, 111, 115, 116, 101, 114]⟩, 3, 100, 110, [⟨#[114, 101, 100]⟩, ⟨#[98, 108, 117, 101]⟩], 30, 600⟩
def inksC : Cols := ⟨[10, 20, 30], [[0, 60, 0], [-1, 0, -1], [0, 0, 0]]⟩
def dayL : List Job := [⟨⟨#[97]⟩, 0, 10, 20⟩, ⟨⟨#[98]⟩, 4, 3, 8⟩]
theorem poster_s : Ctr Tryz.prog 14 [] (fun rr => rr = ⟨rV true posterR, []⟩) := by
  refine Ctr.of (rs := [.cell 0 24]) Tok true Tryz.func14 rfl rfl rfl rfl (by simp [ofDL]) (fun w0 kp => ?_)
  simp only [↓sx0, sxE, encs, sevalprocAttr]
  repeat ((with_reducible refine Vc.go ?_ fun _ => ?_); (focus (first | omega | (simp only [InK]; omega) | (simp [InK]; done) | (simp [InK]; omega))); simp only [↓sx0, sxE, encs, sevalprocAttr])
  refine EndW.fn ?_ ?_ <;> simp only [sx4, encs, kpLL_map, sxR, sevalprocAttr] <;> (try simp [posterR, eS]) <;> (try omega)
theorem inks_s : Ctr Tryz.prog 17 [] (fun rr => rr = ⟨cV true true true inksC, []⟩) := by
  refine Ctr.of (rs := [.cell 0 55]) Tok true Tryz.func17 rfl rfl rfl rfl (by simp [ofDL]) (fun w0 kp => ?_)
  simp only [↓sx0, sxE, encs, sevalprocAttr]
  repeat ((with_reducible refine Vc.go ?_ fun _ => ?_); (focus (first | omega | (simp only [InK]; omega) | (simp [InK]; done) | (simp [InK]; omega))); simp only [↓sx0, sxE, encs, sevalprocAttr])
  refine EndW.fn ?_ ?_ <;> simp only [sx4, encs, kpLL_map, sxR, sevalprocAttr] <;> (try simp [inksC, eI, eIB]) <;> (try omega)
theorem day_s : Ctr Tryz.prog 19 [] (fun rr => rr = ⟨.sl true 4 (dayL.map eJ), []⟩) := by
  refine Ctr.of (rs := [.tmp 0]) Tok true Tryz.func19 rfl rfl rfl rfl (by simp [ofDL]) (fun w0 kp => ?_)
  simp only [↓sx0, sxE, encs, sevalprocAttr]
  repeat ((with_reducible refine Vc.go ?_ fun _ => ?_); (focus (first | omega | (simp only [InK]; omega) | (simp [InK]; done) | (simp [InK]; omega))); simp only [↓sx0, sxE, encs, sevalprocAttr])
  refine EndW.fn ?_ ?_ <;> simp only [sx4, encs, kpLL_map, sxR, sevalprocAttr] <;> (try simp [dayL, eJ]) <;> (try omega)
theorem est_val : (if runErr posterR = 0 ∧ PrOk ⟨5, 100, 3000⟩ then estim posterR ⟨5, 100, 3000⟩ else 0) = 4850 := by kernel_rfl
theorem est_err : (if runErr posterR = 0 then (if PrOk ⟨5, 100, 3000⟩ then 0 else 2) else runErr posterR) = 0 := by kernel_rfl
theorem ch_num : (if shErr 3 2 1 10 = 0 then chN 3 2 1 10 else 0) = 243 := by kernel_rfl
theorem ch_den : (if shErr 3 2 1 10 = 0 then chD 3 2 1 10 else 0) = 250 := by kernel_rfl
theorem ch_err : shErr 3 2 1 10 = 0 := by kernel_rfl
theorem ink_err : colErr inksC = 0 := by kernel_rfl
theorem ink_any : (bstO inksC).any = true := by kernel_rfl
theorem ink_min : (bstO inksC).minutes = 90 := by kernel_rfl
theorem ink_ord : (bstO inksC).order = [0, 2, 1] := by kernel_rfl
theorem day_err : jobsErr dayL = 0 := by kernel_rfl
theorem day_late : lateE dayL = -1 := by kernel_rfl
theorem awake_s : Ctr Tryz.prog 4 [] (fun rr => rr = ⟨(.v (.bool (true))), []⟩) := by
  have h1 := estimate_s true posterR ⟨5, 100, 3000⟩
  rw [est_val, est_err] at h1
  have h2 := chanceOf_s 3 2 1 10 (by decide)
  rw [ch_num, ch_den, ch_err] at h2
  have h3 := bestOrder_s true true true inksC (by decide)
  rw [show bestV inksC = .tup [.sl true 1 ([0, 2, 1].map eI), (.v (.int .i64 90)), .sl true 2 ((treeB inksC).map eM), (.v (.int .i64 0))] by rw [bestV, if_pos ink_err, if_pos ink_any, if_pos ink_any, if_pos ink_any, ink_min, ink_ord]] at h3
  have h4 := schedule_s dayL
  rw [show schedV dayL = .tup [.sl true 3 ((dues dayL).map eT), (.v (.int .i64 (-1))), .sl true 1 ((fstS dayL).map eI), (.v (.int .i64 0))] by rw [schedV, if_pos day_err, day_late]] at h4
  have encs := And.intro (And.intro encs prV_eq) shV_eq
  refine Ctr.of (rs := [.tmp 0]) Tok true Tryz.func4 rfl rfl rfl rfl (by simp [ofDL]) (fun w0 kp => ?_)
  simp only [↓sx0, sxE, encs, sevalprocAttr]
  refine CallI.fn (poster_s) (by simp only [sx3, encs, sxR, sevalprocAttr] <;> (try simp) <;> (try rfl)) ?_
  simp only [↓sx0, sxE, encs, sevalprocAttr]
  refine CallI.fn (h1) (by simp only [sx3, encs, sxR, sevalprocAttr] <;> (try simp) <;> (try rfl)) ?_
  simp only [↓sx0, sxE, encs, sevalprocAttr]
  refine CallI.fn (h2) (by simp only [sx3, encs, sxR, sevalprocAttr] <;> (try simp) <;> (try rfl)) ?_
  simp only [↓sx0, sxE, encs, sevalprocAttr]
  refine CallI.fn (inks_s) (by simp only [sx3, encs, sxR, sevalprocAttr] <;> (try simp) <;> (try rfl)) ?_
  simp only [↓sx0, sxE, encs, sevalprocAttr]
  refine CallI.fn (h3) (by simp only [sx3, encs, sxR, sevalprocAttr] <;> (try simp) <;> (try rfl)) ?_
  simp only [↓sx0, sxE, encs, sevalprocAttr]
  refine CallI.fn (day_s) (by simp only [sx3, encs, sxR, sevalprocAttr] <;> (try simp) <;> (try rfl)) ?_
  simp only [↓sx0, sxE, encs, sevalprocAttr]
  refine CallI.fn (h4) (by simp only [sx3, encs, sxR, sevalprocAttr] <;> (try simp) <;> (try rfl)) ?_
  simp only [↓sx0, sxE, encs, sevalprocAttr]
  refine CallI.fn (ints_s true false [0, 2, 1] [0, 2, 1] (by decide)) (by simp only [sx3, encs, sxR, sevalprocAttr] <;> (try simp) <;> (try rfl)) ?_
  simp only [↓sx0, sxE, encs, sevalprocAttr]
  refine EndW.fn ?_ ?_ <;> simp only [sx4, encs, kpLL_map, sxR, sevalprocAttr] <;> (try simp) <;> (try omega)
end Go.Proofs.YtfojggadhhaleaaGreatDoor
/-
 Chapter 9: the law of runs' texts.
-/
namespace Go.Proofs.YtfojggadhhaleaaGreatDoor
open Go Go.Vx
set_option linter.unusedSimpArgs false
set_option linter.unusedVariables false
set_option maxRecDepth 20000
theorem textsSame_s (b b' : Bool) (l : List ByteArray) (hl : l.length ≤ 1000000000) : Ctr Tryz.prog 32 [.sl b 1 (l.map eS), .sl b' 1 (l.map eS)] (fun rr => rr = ⟨(.v (.bool (true))), []⟩) := by
 refine Ctr.of (rs := [.tmp 4]) Tok true Tryz.func32 rfl rfl rfl rfl (by simp [ofDL]) (fun w0 kp => ?_)
 simp only [↓sx0, sxE, encs, sevalprocAttr]
 refine BrW.no (by simp) ?_
 simp only [↓sx0, sxE, encs, sevalprocAttr]
 refine LoopW.comp [0, 1, 5] (by simp only [sx2, encs, sxR, sevalprocAttr] <;> (try simp) <;> (try omega)) ?_
 simp only [sx2, sxR, sevalprocAttr]
 refine LoopW.up Tok (fun k : Nat => [(5, (.v (.int .i64 ((k : Int)))))]) (fun k => []) (fun k => []) (fun k => []) (fun k => k ≤ l.length) (fun k => l.length - k) (0) (by simp only [sx2, encs, sxR, sevalprocAttr] <;> (try simp) <;> (try omega)) ?_ ?_
 ·omega
 rintro k hk
 simp only [↓sx0, sxE, encs, sevalprocAttr]
 refine BrW.dec (fun hlt => ?_) (fun hlt => ?_)
 ·simp only [↓sx0, sxE, encs, sevalprocAttr]
  have h1 : k < l.length := by omega
  refine DrawW.plan Tok mixed (.q 0 <| .q 1 <| .q 2 <| .q 3 <| .q 4 <| .q 5 <| .q 6 <| .q 7 <| .q 8 <| .done) (by kernel_rfl) (by kernel_rfl) ?_
  simp only [↓sx0, sxE, encs, sevalprocAttr]
  refine IxW.nat h1 ?_
  simp only [↓sx0, sxE, encs, sevalprocAttr]
  refine IxW.nat h1 ?_
  simp only [↓sx0, sxE, encs, sevalprocAttr]
  refine BrW.no (by simp) ?_
  simp only [↓sx0, sxE, encs, sevalprocAttr]
  repeat ((with_reducible refine Vc.go ?_ fun _ => ?_); (focus (first | omega | (simp only [InK]; omega) | (simp [InK]; done) | (simp [InK]; omega))); simp only [↓sx0, sxE, encs, sevalprocAttr])
  refine ⟨k + 1, StLe.auto (by simp only [sx2, encs, sxR, sevalprocAttr] <;> (try simp) <;> (try omega)), ?_, ?_⟩
  all_goals omega
 ·simp only [↓sx0, sxE, encs, sevalprocAttr]
  refine EndW.fn ?_ ?_ <;> simp only [sx4, encs, kpLL_map, sxR, sevalprocAttr] <;> (try simp) <;> (try omega)
theorem sameRun_s (b b' : Bool) (x : Run) (hl : x.cols.length ≤ 1000000000) : Ctr Tryz.prog 11 [rV b x, rV b' x] (fun rr => rr = ⟨(.v (.bool (true))), []⟩) := by
 refine Ctr.of (rs := [.tmp 4]) Tok true Tryz.func11 rfl rfl rfl rfl (by simp [ofDL]) (fun w0 kp => ?_)
 simp only [↓sx0, sxE, encs, sevalprocAttr]
 repeat ((with_reducible refine BrW.yes rfl ?_); simp only [↓sx0, sxE, encs, sevalprocAttr])
 refine CallI.fn (textsSame_s b b' x.cols hl) (by simp only [sx3, encs, sxR, sevalprocAttr] <;> (try simp) <;> (try rfl)) ?_
 simp only [↓sx0, sxE, encs, sevalprocAttr]
 refine EndW.fn ?_ ?_ <;> simp only [sx4, encs, kpLL_map, sxR, sevalprocAttr] <;> (try simp) <;> (try omega)
set_option maxHeartbeats 8000000 in
theorem textsLaw_s (x : Run) (s : ByteArray) (hx : RunI x) : CtrK glob Tryz.prog 3 [rV true x, (.v (.string (s)))] (fun rr => rr = ⟨(.v (.bool (true))), []⟩) := by
 refine CtrK.of (rs := [.tmp 4]) Tok true Tryz.func3 rfl rfl rfl rfl (by simp [ofDL]) (fun w0 kp hgl => ?_)
 simp only [↓sx0, sxE, encs, sevalprocAttr]
 refine CallI.fn (awake_s) (by simp only [sx3, encs, sxR, sevalprocAttr] <;> (try simp) <;> (try rfl)) ?_
 simp only [↓sx0, sxE, encs, sevalprocAttr]
 refine CallI.fn (short_s true x) (by simp only [sx3, encs, sxR, sevalprocAttr] <;> (try simp) <;> (try rfl)) ?_
 simp only [↓sx0, sxE, encs, sevalprocAttr]
 refine BrW.of (fun hs => ?_) (fun hs => ?_)
 ·have hs' := hs
  simp only [shortR, Bool.and_eq_true, decide_eq_true_eq, List.all_eq_true] at hs'
  obtain ⟨⟨hj, hc⟩, hcs⟩ := hs'
  simp only [↓sx0, sxE, encs, sevalprocAttr]
  repeat ((with_reducible refine BrW.tt hs ?_); simp only [↓sx0, sxE, encs, sevalprocAttr])
  refine BrW.dec (fun hl => ?_) (fun hl => ?_)
  ·simp only [↓sx0, sxE, encs, sevalprocAttr]
   refine EndW.fn ?_ ?_ <;> simp only [sx4, encs, kpLL_map, sxR, sevalprocAttr] <;> (try simp) <;> (try omega)
  ·have hsz : s.size ≤ 200 := by omega
   have hbs : s = bs s.data.toList := (bs_data s).symm
   have hll : s.data.toList.length ≤ 200 := hsz
   clear hl
   generalize s.data.toList = l at hbs hll
   subst hbs
   have cF := formatRun_s true x hx (by omega) (by omega) (fun s h => by have := hcs s h; omega)
   have cR := formatRun_R true x hx (by omega) (by omega) (fun s h => by have := hcs s h; omega)
   have cP := parseRun_s l (by omega)
   have cQ := parseRun_R l (by omega)
   rw [prs_same] at cP
   have hpl : (prsR nuR l).1.cols.length ≤ 1001 := by
    have h1 : (cutL 32 [] l).length ≤ 1001 := by rw [cutL_len]; have := List.count_le_length (a := (32 : UInt8)) (l := l); omega
    unfold prsR
    split
    ·simp [run0]
    ·split
     ·split
      ·simp only [mkRun, List.length_map, List.length_drop]; omega
      ·simp [run0]
     ·simp [run0]
   obtain ⟨p, hp⟩ : ∃ p, p = prsR nuR l := ⟨_, rfl⟩
   rw [← hp] at cP cQ hpl
   clear hp
   obtain ⟨y, e⟩ := p
   simp only at cP cQ hpl
   have cS := sameRun_s true true y (by omega)
   simp only [↓sx0, sxE, encs, sevalprocAttr]
   refine CallI.fn (copyRun_s true x (by omega)) (by simp only [sx3, encs, sxR, sevalprocAttr] <;> (try simp) <;> (try rfl)) ?_
   simp only [↓sx0, sxE, encs, sevalprocAttr]
   refine CallI.fnK (cF) glob_ok hgl rfl (by simp only [sx3, encs, sxR, sevalprocAttr] <;> (try simp) <;> (try rfl)) ?_
   simp only [↓sx0, sxE, encs, sevalprocAttr]
   refine CallI.fnK (cP) glob_ok hgl rfl (by simp only [sx3, encs, sxR, sevalprocAttr] <;> (try simp) <;> (try rfl)) ?_
   simp only [↓sx0, sxE, encs, sevalprocAttr]
   refine CallI.fn (cQ) (by simp only [sx3, encs, sxR, sevalprocAttr] <;> (try simp) <;> (try rfl)) ?_
   simp only [↓sx0, sxE, encs, sevalprocAttr]
   refine CallI.fn (cR) (by simp only [sx3, encs, sxR, sevalprocAttr] <;> (try simp) <;> (try rfl)) ?_
   simp only [↓sx0, sxE, encs, sevalprocAttr]
   refine BrW.no (by simp) ?_
   simp only [↓sx0, sxE, encs, sevalprocAttr]
   refine BrW.no (by simp) ?_
   simp only [↓sx0, sxE, encs, sevalprocAttr]
   refine CallI.fn (cS) (by simp only [sx3, encs, sxR, sevalprocAttr] <;> (try simp) <;> (try rfl)) ?_
   simp only [↓sx0, sxE, encs, sevalprocAttr]
   refine CallI.fn (checkRunR_s true x) (by simp only [sx3, encs, sxR, sevalprocAttr] <;> (try simp) <;> (try rfl)) ?_
   simp only [↓sx0, sxE, encs, sevalprocAttr]
   by_cases he : runErr x = 0
   ·have cB := parseRun_s (runT x) (by
     have := join_len (runW x) 30 (fun w hw => by
      simp only [runW, List.cons_append, List.mem_cons, List.mem_append, List.mem_map] at hw
      rcases hw with rfl | ⟨n, hn, rfl⟩ | ⟨s, h1, rfl⟩
      ·exact hj
      ·have := itoa_len (hx n hn); omega
      ·exact hcs s h1)
     have hRl : (runW x).length = x.cols.length + 6 := by simp [runW, runN]
     rw [hRl] at this
     have : (runT x).length ≤ (30 + 1) * (x.cols.length + 6) := this
     omega)
    rw [prs_same, fmt_back he] at cB
    have cX := sameRun_s true true x (by omega)
    refine BrW.no (by simp [he]) ?_
    simp only [↓sx0, sxE, encs, sevalprocAttr]
    refine CallI.fnK (cB) glob_ok hgl rfl (by simp only [sx3, encs, sxR, sevalprocAttr] <;> (try simp) <;> (try rfl)) ?_
    simp only [↓sx0, sxE, encs, sevalprocAttr]
    refine CallI.fn (cX) (by simp only [sx3, encs, sxR, sevalprocAttr] <;> (try simp) <;> (try rfl)) ?_
    simp only [↓sx0, sxE, encs, sevalprocAttr]
    refine EndW.fn ?_ ?_ <;> simp only [sx4, encs, kpLL_map, sxR, sevalprocAttr] <;> (try simp) <;> (try omega)
   ·refine BrW.yes he ?_
    simp only [↓sx0, sxE, encs, sevalprocAttr]
    refine EndW.fn ?_ ?_ <;> simp only [sx4, encs, kpLL_map, sxR, sevalprocAttr] <;> (try simp) <;> (try omega)
 ·simp only [↓sx0, sxE, encs, sevalprocAttr]
  repeat ((with_reducible refine BrW.ff hs ?_); simp only [↓sx0, sxE, encs, sevalprocAttr])
  refine EndW.fn ?_ ?_ <;> simp only [sx4, encs, kpLL_map, sxR, sevalprocAttr] <;> (try simp) <;> (try omega)
end Go.Proofs.YtfojggadhhaleaaGreatDoor
