/-
 Chapter 8: the law of the type that moves.
-/
import Derived.Test.YthkkcemefngeiaaGreatVGE
import Derived.Test.YthkkcemefngeiaaGreatVGN
import Derived.Test.YthkkcemefngeiaaGreatVGS
import Derived.Test.YthkkcemefngeiaaGreatVGR
namespace Go.Proofs.YthkkcemefngeiaaGreat
open Go Go.Vx
set_option linter.unusedSimpArgs false
set_option linter.unusedVariables false
set_option maxRecDepth 20000
theorem ints_s (b b' : Bool) (l m : List Int) (hl : l.length ≤ 1000000000) : Ctr Tryz.prog 16 [.sl b 1 (l.map eI), .sl b' 1 (m.map eI)] (fun rr => rr = ⟨(.v (.bool (decide (l = m)))), []⟩) := by
 refine Ctr.of (rs := [.tmp 4]) Tok true Tryz.func16 rfl rfl rfl rfl (by simp [ofDL]) (fun w0 kp => ?_)
 simp only [↓sx0, sxE, encs, sevalprocAttr]
 refine BrW.dec (fun hn => ?_) (fun hn => ?_)
 ·simp only [↓sx0, sxE, encs, sevalprocAttr]
  have : ¬ l = m := fun h => hn (by rw [h])
  refine EndW.fn ?_ ?_ <;> simp only [sx4, encs, kpLL_map, sxR, sevalprocAttr] <;> (try simp [this]) <;> (try omega)
 ·simp only [↓sx0, sxE, encs, sevalprocAttr]
  have hn2 : l.length = m.length := by omega
  refine LoopW.comp [0, 1, 5] (by simp only [sx2, encs, sxR, sevalprocAttr] <;> (try simp) <;> (try omega)) ?_
  simp only [sx2, sxR, sevalprocAttr]
  refine LoopW.up Tok (fun k : Nat => [(5, (.v (.int .i64 k)))]) (fun k => []) (fun k => []) (fun k => []) (fun k => k ≤ l.length ∧ l.take k = m.take k) (fun k => l.length - k) (0) (by simp only [sx2, encs, sxR, sevalprocAttr] <;> (try simp) <;> (try omega)) ?_ ?_
  ·exact ⟨by omega, by simp⟩
  rintro k ⟨hk, ht⟩
  simp only [↓sx0, sxE, encs, sevalprocAttr]
  refine BrW.dec (fun hlt => ?_) (fun hlt => ?_)
  ·simp only [↓sx0, sxE, encs, sevalprocAttr]
   have h1 : k < l.length := by omega
   have h2 : k < m.length := by omega
   refine DrawW.plan Tok mixed (.q 0 <| .q 1 <| .q 2 <| .q 3 <| .q 4 <| .q 5 <| .q 6 <| .q 7 <| .q 8 <| .done) (by kernel_rfl) (by kernel_rfl) ?_
   simp only [↓sx0, sxE, encs, sevalprocAttr]
   refine IxW.nat h1 ?_
   simp only [↓sx0, sxE, encs, sevalprocAttr]
   refine IxW.nat h2 ?_
   simp only [↓sx0, sxE, encs, sevalprocAttr]
   refine BrW.dec (fun hne => ?_) (fun hne => ?_)
   ·simp only [↓sx0, sxE, encs, sevalprocAttr]
    have : ¬ l = m := fun h => hne (by subst h; rfl)
    refine EndW.fn ?_ ?_ <;> simp only [sx4, encs, kpLL_map, sxR, sevalprocAttr] <;> (try simp [this]) <;> (try omega)
   ·simp only [↓sx0, sxE, encs, sevalprocAttr]
    have he : l[k] = m[k] := by exact Decidable.not_not.1 hne
    (with_reducible refine Vc.go ?_ fun _ => ?_); focus (first | omega | (simp only [InK]; omega) | (simp [InK]; done) | (simp [InK]; omega))
    simp only [↓sx0, sxE, encs, sevalprocAttr]
    refine ⟨k + 1, StLe.auto (by simp only [sx2, encs, sxR, sevalprocAttr] <;> (try simp) <;> (try omega)), ?_, ?_⟩
    ·exact ⟨h1, take_eq_succ h1 h2 ht he⟩
    ·omega
  ·simp only [↓sx0, sxE, encs, sevalprocAttr]
   have hke : k = l.length := by omega
   subst hke
   rw [List.take_length, hn2, List.take_length] at ht
   refine EndW.fn ?_ ?_ <;> simp only [sx4, encs, kpLL_map, sxR, sevalprocAttr] <;> (try simp [ht]) <;> (try omega)
theorem DrawW.comp (keep : List Nat) {C : Cx} {ops : List Oper} {st st' : St} {K : St → Prop} (h : leA C st (compS keep st)) (he : compS keep st = st') (h1 : DrawW C ops st' K ⟨⟩) : DrawW C ops st K ⟨⟩ := fun hd id g a w hm => by
 subst he
 obtain ⟨g', hm'⟩ := StLe.auto h g a w hm
 exact h1 hd id g' a w hm'
theorem DrawW.le {C : Cx} {ops : List Oper} {st st' : St} {K : St → Prop} (h : leA C st st') (h1 : DrawW C ops st' K ⟨⟩) : DrawW C ops st K ⟨⟩ := fun hd id g a w hm => by
 obtain ⟨g', hm'⟩ := StLe.auto h g a w hm
 exact h1 hd id g' a w hm'
structure Cut (G : Prop) : Prop where
 out : G
theorem cutG {G A : Prop} (br : Cut G → A) (tail : G) : A := br ⟨tail⟩
def stB (l : List Int) : Bool := decide (l.length ≤ 20) || (decide (300 < l.length) && decide (l.length ≤ 302))
theorem sorts_s (b : Bool) (l : List Int) (hl : l.length ≤ maxLen) : Ctr Tryz.prog 6 [.sl b 1 (l.map eI)] (fun rr => rr = ⟨(.v (.bool (stB l))), []⟩) := by
 refine Ctr.of (rs := [.tmp 2]) Tok true Tryz.func6 rfl rfl rfl rfl (by simp [ofDL]) (fun w0 kp => ?_)
 simp only [↓sx0, sxE, encs, sevalprocAttr]
 by_cases h1 : l.length ≤ 20
 ·rw [show stB l = true by simp [stB, h1]]
  refine BrW.yes (by omega) ?_
  simp only [↓sx0, sxE, encs, sevalprocAttr]
  refine EndW.fn ?_ ?_ <;> simp only [sx4, encs, kpLL_map, sxR, sevalprocAttr] <;> (try simp) <;> (try omega)
 ·refine BrW.no (by omega) ?_
  simp only [↓sx0, sxE, encs, sevalprocAttr]
  by_cases h2 : 300 < l.length
  ·refine BrW.yes (by omega) ?_
   simp only [↓sx0, sxE, encs, sevalprocAttr]
   refine EndW.fn ?_ ?_ <;> simp only [sx4, encs, kpLL_map, sxR, sevalprocAttr] <;> (try simp [stB, h1, h2]) <;> (try omega)
  ·refine BrW.no (by omega) ?_
   rw [show stB l = false by simp [stB, h1, h2]]
   simp only [↓sx0, sxE, encs, sevalprocAttr]
   refine EndW.fn ?_ ?_ <;> simp only [sx4, encs, kpLL_map, sxR, sevalprocAttr] <;> (try simp) <;> (try omega)
theorem sorts_le {l : List Int} (h : stB l = true) : l.length ≤ 302 := by
 simp only [stB, Bool.or_eq_true, Bool.and_eq_true, decide_eq_true_eq] at h; omega
set_option maxHeartbeats 8000000 in
theorem typeLaw_s (x y : List Pt) (a b : List Int) (hx : x.length ≤ maxLen) (hy : y.length ≤ maxLen) (hxw : ∀ p ∈ x, p.words.length ≤ maxLen) (hyw : ∀ p ∈ y, p.words.length ≤ maxLen) (ha : a.length ≤ maxLen) (hb : b.length ≤ maxLen) :
  Ctr Tryz.prog 3 [.agg [.sl true 2 (x.map (eP true)), .sl true 2 (y.map (eP true)), .sl true 1 (a.map eI), .sl true 1 (b.map eI)]] (fun rr => rr = ⟨(.v (.bool (true))), []⟩) := by
 have encs := And.intro encs (And.intro fcS_at (And.intro tmSV_at (show ∀ p, eJ p = [(.v (.int .i64 ((p.1 : Int)))), (.v (.int .i64 ((p.2 : Int))))] from fun _ => rfl)))
 refine Ctr.of (rs := [.tmp 2]) Tok true Tryz.func3 rfl rfl rfl rfl (by simp [ofDL]) (fun w0 kp => ?_)
 simp only [↓sx0, sxE, encs, sevalprocAttr]
 refine CallI.fn (awake_s) (by simp only [sx3, encs, sxR, sevalprocAttr] <;> (try simp) <;> (try rfl)) ?_
 simp only [↓sx0, sxE, encs, sevalprocAttr]
 refine CallI.fn (light_s true true x hx hxw) (by simp only [sx3, encs, sxR, sevalprocAttr] <;> (try simp) <;> (try rfl)) ?_
 simp only [↓sx0, sxE, encs, sevalprocAttr]
 refine BrW.of (fun lx => ?_) (fun lx => ?_)
 ·obtain ⟨nx, wx⟩ := light_all lx
  simp only [↓sx0, sxE, encs, sevalprocAttr]
  repeat ((with_reducible refine BrW.tt lx ?_); simp only [↓sx0, sxE, encs, sevalprocAttr])
  refine CallI.fn (light_s true true y hy hyw) (by simp only [sx3, encs, sxR, sevalprocAttr] <;> (try simp) <;> (try rfl)) ?_
  simp only [↓sx0, sxE, encs, sevalprocAttr]
  refine BrW.of (fun ly => ?_) (fun ly => ?_)
  ·obtain ⟨ny, wy⟩ := light_all ly
   simp only [↓sx0, sxE, encs, sevalprocAttr]
   repeat ((with_reducible refine BrW.tt ly ?_); simp only [↓sx0, sxE, encs, sevalprocAttr])
   refine CallI.fn (sorts_s true a ha) (by simp only [sx3, encs, sxR, sevalprocAttr] <;> (try simp) <;> (try rfl)) ?_
   simp only [↓sx0, sxE, encs, sevalprocAttr]
   refine BrW.of (fun la => ?_) (fun la => ?_)
   ·have na := sorts_le la
    simp only [↓sx0, sxE, encs, sevalprocAttr]
    repeat ((with_reducible refine BrW.tt la ?_); simp only [↓sx0, sxE, encs, sevalprocAttr])
    refine CallI.fn (sorts_s true b hb) (by simp only [sx3, encs, sxR, sevalprocAttr] <;> (try simp) <;> (try rfl)) ?_
    simp only [↓sx0, sxE, encs, sevalprocAttr]
    refine BrW.of (fun lb => ?_) (fun lb => ?_)
    ·have nb := sorts_le lb
     simp only [↓sx0, sxE, encs, sevalprocAttr]
     repeat ((with_reducible refine BrW.tt lb ?_); simp only [↓sx0, sxE, encs, sevalprocAttr])
     have cIa := copyInts_s true a (by omega)
     have cIb := copyInts_s true b (by omega)
     have cTM := typeMoves_s a b (by omega) (by omega)
     have cK := kept_s true true a b
     have cCx := copyOf_s true true x (by omega) (fun p hp => by have := (wx p hp).1; omega)
     have cCy := copyOf_s true true y (by omega) (fun p hp => by have := (wy p hp).1; omega)
     have cFC := firstChanged_s true true true true x y (by omega) (by omega) (fun p hp => by have := (wx p hp).1; omega) (fun p hp => by have := (wy p hp).1; omega)
     have cFR := firstChangedR_s true true true true x y (by omega) (by omega) (fun p hp => by have := (wx p hp).1; omega) (fun p hp => by have := (wy p hp).1; omega)
     have cPx := checkPartsR_s true true x (by omega) (fun p hp => ⟨by have := (wx p hp).1; omega, (wx p hp).2⟩)
     have cPy := checkPartsR_s true true y (by omega) (fun p hp => ⟨by have := (wy p hp).1; omega, (wy p hp).2⟩)
     by_cases hs : a.length ≤ 300 ∧ b.length ≤ 300
     ·rw [show tmV a b = ((moreR a b a.length, moreR b a b.length), 0) by rw [tmV, if_pos hs]] at cTM
      rw [show keptV a b = (keptL a b, 0) by rw [keptV, if_pos hs]] at cK
      have cTR := typeMovesR_s true true a b (by omega) (by omega)
      have cKR := kept_R true true a b (by omega) (by omega)
      obtain ⟨kl1, kl2⟩ := kept_le a b
      generalize moreR a b a.length = ma at cTM cTR kl1
      generalize moreR b a b.length = mb at cTM cTR kl2
      generalize keptL a b = kq at cK cKR kl1 kl2
      have cI1 := ints_s true true ma ma (by omega)
      rw [decide_eq_true rfl] at cI1
      have cI2 := ints_s true true mb mb (by omega)
      rw [decide_eq_true rfl] at cI2
      apply @cutG _ _ ?br ?tail
      case br =>
       intro hcut
       refine DrawW.plan Tok mixed (.q 0 <| .q 1 <| .q 3 <| .q 4 <| .e2 2 [4] (.e2 5 [] (.e2 6 [] (.q 7 <| .q 8 <| .q 9 <| .e 10 [1, 4] <| .e 11 [] <| .q 12 <| .done) 10 [1, 4] (.e 6 [] <| .q 7 <| .q 8 <| .q 9 <| .e 11 [] <| .q 12 <| .done)) 10 [1, 4] (.e 5 [] <| .e 6 [] <| .q 7 <| .q 8 <| .q 9 <| .e 11 [] <| .q 12 <| .done)) 10 [1, 4] (.e 2 [4] <| .e 5 [] <| .e 6 [] <| .q 7 <| .q 8 <| .q 9 <| .e 11 [] <| .q 12 <| .done)) (by kernel_rfl) (by kernel_rfl) ?_
       simp only [↓sx0, sxE, encs, sevalprocAttr]
       repeat' (first | (with_reducible refine And.intro ?_ ?_) | ((with_reducible refine Vc.go ?_ fun _ => ?_); (focus (first | trivial | omega | (simp only [InK]; omega) | (simp [InK]; done) | (simp [InK]; omega))); (try simp only [↓sx0, sxE, encs, sevalprocAttr])) | (refine CallI.fn (cIa) ?_ ?_; (focus ((simp only [sx3, encs, sxR, sevalprocAttr] <;> (try simp) <;> (try rfl)); done)); (try simp only [↓sx0, sxE, encs, sevalprocAttr])) | (refine CallI.fn (cIb) ?_ ?_; (focus ((simp only [sx3, encs, sxR, sevalprocAttr] <;> (try simp) <;> (try rfl)); done)); (try simp only [↓sx0, sxE, encs, sevalprocAttr])) | (refine CallI.fn (cTM) ?_ ?_; (focus ((simp only [sx3, encs, sxR, sevalprocAttr] <;> (try simp) <;> (try rfl)); done)); (try simp only [↓sx0, sxE, encs, sevalprocAttr])))
       all_goals (
        skip
        refine DrawW.comp [1, 3, 4] (by simp only [sx2, encs, sxR, sevalprocAttr] <;> (try simp) <;> (try omega)) (by simp only [sx2, sxR, sevalprocAttr]; rfl) ?_
        exact hcut.out )
      case tail =>
       apply @cutG _ _ ?br ?tail
       case br =>
        intro hcut
        refine DrawW.plan Tok mixed (.q 0 <| .q 1 <| .q 3 <| .q 4 <| .e 2 [4] <| .e 5 [] <| .e 6 [] <| .q 7 <| .q 8 <| .q 9 <| .q 10 <| .q 11 <| .done) (by kernel_rfl) (by kernel_rfl) ?_
        simp only [↓sx0, sxE, encs, sevalprocAttr]
        repeat' (first | (with_reducible refine And.intro ?_ ?_) | ((with_reducible refine Vc.go ?_ fun _ => ?_); (focus (first | trivial | omega | (simp only [InK]; omega) | (simp [InK]; done) | (simp [InK]; omega))); (try simp only [↓sx0, sxE, encs, sevalprocAttr])) | (refine CallI.fn (cIa) ?_ ?_; (focus ((simp only [sx3, encs, sxR, sevalprocAttr] <;> (try simp) <;> (try rfl)); done)); (try simp only [↓sx0, sxE, encs, sevalprocAttr])) | (refine CallI.fn (cIb) ?_ ?_; (focus ((simp only [sx3, encs, sxR, sevalprocAttr] <;> (try simp) <;> (try rfl)); done)); (try simp only [↓sx0, sxE, encs, sevalprocAttr])) | (refine CallI.fn (cK) ?_ ?_; (focus ((simp only [sx3, encs, sxR, sevalprocAttr] <;> (try simp) <;> (try rfl)); done)); (try simp only [↓sx0, sxE, encs, sevalprocAttr])))
        all_goals (
         skip
         refine DrawW.comp [1, 3, 4, 5, 6] (by simp only [sx2, encs, sxR, sevalprocAttr] <;> (try simp) <;> (try omega)) (by simp only [sx2, sxR, sevalprocAttr]; rfl) ?_
         exact hcut.out )
       case tail =>
        apply @cutG _ _ ?br ?tail
        case br =>
         intro hcut
         have cFC' := cFC
         have cFR' := cFR
         have cPx' := cPx
         have cPy' := cPy
         by_cases hpx : (partsErr x).2 = 0
         ·by_cases hpy : (partsErr y).2 = 0
          ·rw [show fcA x y = fcV x y by rw [fcA, if_pos hpx, if_pos hpy]] at cFC'
           rw [hpx] at cPx'
           rw [hpy] at cPy'
           obtain ⟨fv, hfv⟩ : ∃ fv, fv = fcV x y := ⟨_, rfl⟩
           rw [← hfv] at cFC' cFR'
           clear hfv
           obtain ⟨⟨v1, v2⟩, v3⟩ := fv
           refine DrawW.plan Tok mixed (.q 0 <| .q 1 <| .q 3 <| .q 4 <| .e2 2 [4] (.e2 5 [] (.e2 6 [] (.q 7 <| .q 8 <| .q 9 <| .e 10 [1, 4] <| .e 11 [] <| .q 12 <| .done) 10 [1, 4] (.e 6 [] <| .q 7 <| .q 8 <| .q 9 <| .e 11 [] <| .q 12 <| .done)) 10 [1, 4] (.e 5 [] <| .e 6 [] <| .q 7 <| .q 8 <| .q 9 <| .e 11 [] <| .q 12 <| .done)) 10 [1, 4] (.e 2 [4] <| .e 5 [] <| .e 6 [] <| .q 7 <| .q 8 <| .q 9 <| .e 11 [] <| .q 12 <| .done)) (by kernel_rfl) (by kernel_rfl) ?_
           simp only [↓sx0, sxE, encs, sevalprocAttr]
           repeat' (first | (with_reducible refine And.intro ?_ ?_) | ((with_reducible refine Vc.go ?_ fun _ => ?_); (focus (first | trivial | omega | (simp only [InK]; omega) | (simp [InK]; done) | (simp [InK]; omega))); (try simp only [↓sx0, sxE, encs, sevalprocAttr])) | (refine CallI.fn (cCx) ?_ ?_; (focus ((simp only [sx3, encs, sxR, sevalprocAttr] <;> (try simp) <;> (try rfl)); done)); (try simp only [↓sx0, sxE, encs, sevalprocAttr])) | (refine CallI.fn (cCy) ?_ ?_; (focus ((simp only [sx3, encs, sxR, sevalprocAttr] <;> (try simp) <;> (try rfl)); done)); (try simp only [↓sx0, sxE, encs, sevalprocAttr])) | (refine CallI.fn (cFC') ?_ ?_; (focus ((simp only [sx3, encs, sxR, sevalprocAttr] <;> (try simp) <;> (try rfl)); done)); (try simp only [↓sx0, sxE, encs, sevalprocAttr])))
           all_goals (
            skip
            refine CallI.fn (cPx') (by simp only [sx3, encs, sxR, sevalprocAttr] <;> (try simp) <;> (try rfl)) ?_
            simp only [↓sx0, sxE, encs, sevalprocAttr]
            refine CallI.fn (cPy') (by simp only [sx3, encs, sxR, sevalprocAttr] <;> (try simp) <;> (try rfl)) ?_
            simp only [↓sx0, sxE, encs, sevalprocAttr]
            refine CallI.fn (cFR') (by simp only [sx3, encs, sxR, sevalprocAttr] <;> (try simp) <;> (try rfl)) ?_
            simp only [↓sx0, sxE, encs, sevalprocAttr]
            refine BrW.no (by simp) ?_
            simp only [↓sx0, sxE, encs, sevalprocAttr]
            refine BrW.no (by simp) ?_
            simp only [↓sx0, sxE, encs, sevalprocAttr]
            refine BrW.no (by omega) ?_
            simp only [↓sx0, sxE, encs, sevalprocAttr]
            refine BrW.no (by omega) ?_
            simp only [↓sx0, sxE, encs, sevalprocAttr]
            refine DrawW.le (st' := ⟨[(1, .box 0 0), (3, .box 1 0), (4, (.v (.int .i64 0))), (5, .sl true 2 (kq.map eJ)), (6, (.v (.int .i64 0)))], [some ⟨25, [.sl true 2 (x.map (eP true)), .sl true 2 (y.map (eP true)), .sl true 1 (a.map eI), .sl true 1 (b.map eI)]⟩, some ⟨29, [.sl true 1 (ma.map eI), .sl true 1 (mb.map eI)]⟩], []⟩) (by simp only [sx2, encs, sxR, sevalprocAttr] <;> (try simp) <;> (try omega)) hcut.out
            )
          ·obtain ⟨z, hz⟩ : ∃ z : Nat, z = 0 := ⟨0, rfl⟩
           rw [show fcA x y = ((z, z), (partsErr y).2) by rw [hz, fcA, if_pos hpx, if_neg hpy]] at cFC'
           rw [hpx] at cPx'
           obtain ⟨ey, hey⟩ : ∃ ey, ey = (partsErr y).2 := ⟨_, rfl⟩
           rw [← hey] at cFC' cPy' hpy
           clear hey
           refine DrawW.plan Tok mixed (.q 0 <| .q 1 <| .q 3 <| .q 4 <| .e2 2 [4] (.e2 5 [] (.e2 6 [] (.q 7 <| .q 8 <| .q 9 <| .e 10 [1, 4] <| .e 11 [] <| .q 12 <| .done) 10 [1, 4] (.e 6 [] <| .q 7 <| .q 8 <| .q 9 <| .e 11 [] <| .q 12 <| .done)) 10 [1, 4] (.e 5 [] <| .e 6 [] <| .q 7 <| .q 8 <| .q 9 <| .e 11 [] <| .q 12 <| .done)) 10 [1, 4] (.e 2 [4] <| .e 5 [] <| .e 6 [] <| .q 7 <| .q 8 <| .q 9 <| .e 11 [] <| .q 12 <| .done)) (by kernel_rfl) (by kernel_rfl) ?_
           simp only [↓sx0, sxE, encs, sevalprocAttr]
           repeat' (first | (with_reducible refine And.intro ?_ ?_) | ((with_reducible refine Vc.go ?_ fun _ => ?_); (focus (first | trivial | omega | (simp only [InK]; omega) | (simp [InK]; done) | (simp [InK]; omega))); (try simp only [↓sx0, sxE, encs, sevalprocAttr])) | (refine CallI.fn (cCx) ?_ ?_; (focus ((simp only [sx3, encs, sxR, sevalprocAttr] <;> (try simp) <;> (try rfl)); done)); (try simp only [↓sx0, sxE, encs, sevalprocAttr])) | (refine CallI.fn (cCy) ?_ ?_; (focus ((simp only [sx3, encs, sxR, sevalprocAttr] <;> (try simp) <;> (try rfl)); done)); (try simp only [↓sx0, sxE, encs, sevalprocAttr])) | (refine CallI.fn (cFC') ?_ ?_; (focus ((simp only [sx3, encs, sxR, sevalprocAttr] <;> (try simp) <;> (try rfl)); done)); (try simp only [↓sx0, sxE, encs, sevalprocAttr])))
           all_goals (
            skip
            refine CallI.fn (cPx') (by simp only [sx3, encs, sxR, sevalprocAttr] <;> (try simp) <;> (try rfl)) ?_
            simp only [↓sx0, sxE, encs, sevalprocAttr]
            refine CallI.fn (cPy') (by simp only [sx3, encs, sxR, sevalprocAttr] <;> (try simp) <;> (try rfl)) ?_
            simp only [↓sx0, sxE, encs, sevalprocAttr]
            refine BrW.no hpy ?_
            simp only [↓sx0, sxE, encs, sevalprocAttr]
            refine BrW.no (by simp) ?_
            simp only [↓sx0, sxE, encs, sevalprocAttr]
            refine BrW.no (by simp [hz]) ?_
            simp only [↓sx0, sxE, encs, sevalprocAttr]
            refine BrW.no (by omega) ?_
            simp only [↓sx0, sxE, encs, sevalprocAttr]
            refine BrW.no (by omega) ?_
            simp only [↓sx0, sxE, encs, sevalprocAttr]
            refine DrawW.le (st' := ⟨[(1, .box 0 0), (3, .box 1 0), (4, (.v (.int .i64 0))), (5, .sl true 2 (kq.map eJ)), (6, (.v (.int .i64 0)))], [some ⟨25, [.sl true 2 (x.map (eP true)), .sl true 2 (y.map (eP true)), .sl true 1 (a.map eI), .sl true 1 (b.map eI)]⟩, some ⟨29, [.sl true 1 (ma.map eI), .sl true 1 (mb.map eI)]⟩], []⟩) (by simp only [sx2, encs, sxR, sevalprocAttr] <;> (try simp) <;> (try omega)) hcut.out
            )
         ·obtain ⟨z, hz⟩ : ∃ z : Nat, z = 0 := ⟨0, rfl⟩
          rw [show fcA x y = ((z, z), (partsErr x).2) by rw [hz, fcA, if_neg hpx]] at cFC'
          obtain ⟨ex, hex⟩ : ∃ ex, ex = (partsErr x).2 := ⟨_, rfl⟩
          rw [← hex] at cFC' cPx' hpx
          clear hex
          refine DrawW.plan Tok mixed (.q 0 <| .q 1 <| .q 3 <| .q 4 <| .e2 2 [4] (.e2 5 [] (.e2 6 [] (.q 7 <| .q 8 <| .q 9 <| .e 10 [1, 4] <| .e 11 [] <| .q 12 <| .done) 10 [1, 4] (.e 6 [] <| .q 7 <| .q 8 <| .q 9 <| .e 11 [] <| .q 12 <| .done)) 10 [1, 4] (.e 5 [] <| .e 6 [] <| .q 7 <| .q 8 <| .q 9 <| .e 11 [] <| .q 12 <| .done)) 10 [1, 4] (.e 2 [4] <| .e 5 [] <| .e 6 [] <| .q 7 <| .q 8 <| .q 9 <| .e 11 [] <| .q 12 <| .done)) (by kernel_rfl) (by kernel_rfl) ?_
          simp only [↓sx0, sxE, encs, sevalprocAttr]
          repeat' (first | (with_reducible refine And.intro ?_ ?_) | ((with_reducible refine Vc.go ?_ fun _ => ?_); (focus (first | trivial | omega | (simp only [InK]; omega) | (simp [InK]; done) | (simp [InK]; omega))); (try simp only [↓sx0, sxE, encs, sevalprocAttr])) | (refine CallI.fn (cCx) ?_ ?_; (focus ((simp only [sx3, encs, sxR, sevalprocAttr] <;> (try simp) <;> (try rfl)); done)); (try simp only [↓sx0, sxE, encs, sevalprocAttr])) | (refine CallI.fn (cCy) ?_ ?_; (focus ((simp only [sx3, encs, sxR, sevalprocAttr] <;> (try simp) <;> (try rfl)); done)); (try simp only [↓sx0, sxE, encs, sevalprocAttr])) | (refine CallI.fn (cFC') ?_ ?_; (focus ((simp only [sx3, encs, sxR, sevalprocAttr] <;> (try simp) <;> (try rfl)); done)); (try simp only [↓sx0, sxE, encs, sevalprocAttr])))
          all_goals (
           skip
           refine CallI.fn (cPx') (by simp only [sx3, encs, sxR, sevalprocAttr] <;> (try simp) <;> (try rfl)) ?_
           simp only [↓sx0, sxE, encs, sevalprocAttr]
           refine BrW.no hpx ?_
           simp only [↓sx0, sxE, encs, sevalprocAttr]
           refine BrW.no hpx ?_
           simp only [↓sx0, sxE, encs, sevalprocAttr]
           refine BrW.no (by simp) ?_
           simp only [↓sx0, sxE, encs, sevalprocAttr]
           refine BrW.no (by simp [hz]) ?_
           simp only [↓sx0, sxE, encs, sevalprocAttr]
           refine BrW.no (by omega) ?_
           simp only [↓sx0, sxE, encs, sevalprocAttr]
           refine BrW.no (by omega) ?_
           simp only [↓sx0, sxE, encs, sevalprocAttr]
           refine DrawW.le (st' := ⟨[(1, .box 0 0), (3, .box 1 0), (4, (.v (.int .i64 0))), (5, .sl true 2 (kq.map eJ)), (6, (.v (.int .i64 0)))], [some ⟨25, [.sl true 2 (x.map (eP true)), .sl true 2 (y.map (eP true)), .sl true 1 (a.map eI), .sl true 1 (b.map eI)]⟩, some ⟨29, [.sl true 1 (ma.map eI), .sl true 1 (mb.map eI)]⟩], []⟩) (by simp only [sx2, encs, sxR, sevalprocAttr] <;> (try simp) <;> (try omega)) hcut.out
           )
        case tail =>
         refine DrawW.plan Tok mixed (.q 0 <| .q 1 <| .q 2 <| .q 3 <| .q 5 <| .q 6 <| .q 7 <| .q 8 <| .e2 4 [6, 8] (.e2 9 [] (.e 10 [1, 3, 6, 8] <| .e 11 [] <| .q 12 <| .done) 10 [1, 3, 6, 8] (.e 9 [] <| .e 11 [] <| .q 12 <| .done)) 10 [1, 3, 6, 8] (.e 4 [6, 8] <| .e 9 [] <| .e 11 [] <| .q 12 <| .done)) (by kernel_rfl) (by kernel_rfl) ?_
         simp only [↓sx0, sxE, encs, sevalprocAttr]
         repeat' (first | (with_reducible refine And.intro ?_ ?_) | ((with_reducible refine Vc.go ?_ fun _ => ?_); (focus (first | trivial | omega | (simp only [InK]; omega) | (simp [InK]; done) | (simp [InK]; omega))); (try simp only [↓sx0, sxE, encs, sevalprocAttr])) | (refine CallI.fn (cTR) ?_ ?_; (focus ((simp only [sx3, encs, sxR, sevalprocAttr] <;> (try simp) <;> (try rfl)); done)); (try simp only [↓sx0, sxE, encs, sevalprocAttr])) | (refine CallI.fn (cKR) ?_ ?_; (focus ((simp only [sx3, encs, sxR, sevalprocAttr] <;> (try simp) <;> (try rfl)); done)); (try simp only [↓sx0, sxE, encs, sevalprocAttr])))
         all_goals (
          skip
          refine BrW.no (by simp) ?_
          simp only [↓sx0, sxE, encs, sevalprocAttr]
          repeat ((with_reducible refine Vc.go ?_ fun _ => ?_); (focus (first | omega | (simp only [InK]; omega) | (simp [InK]; done) | (simp [InK]; omega))); simp only [↓sx0, sxE, encs, sevalprocAttr])
          refine CallI.fn (cI1) (by simp only [sx3, encs, sxR, sevalprocAttr] <;> (try simp) <;> (try rfl)) ?_
          simp only [↓sx0, sxE, encs, sevalprocAttr]
          repeat ((with_reducible refine Vc.go ?_ fun _ => ?_); (focus (first | omega | (simp only [InK]; omega) | (simp [InK]; done) | (simp [InK]; omega))); simp only [↓sx0, sxE, encs, sevalprocAttr])
          refine CallI.fn (cI2) (by simp only [sx3, encs, sxR, sevalprocAttr] <;> (try simp) <;> (try rfl)) ?_
          simp only [↓sx0, sxE, encs, sevalprocAttr]
          refine BrW.no (by simp) ?_
          simp only [↓sx0, sxE, encs, sevalprocAttr]
          refine BrW.no (by simp) ?_
          simp only [↓sx0, sxE, encs, sevalprocAttr]
          refine LoopW.comp [1, 3, 5, 13, 14] (by simp only [sx2, encs, sxR, sevalprocAttr] <;> (try simp) <;> (try omega)) ?_
          simp only [sx2, sxR, sevalprocAttr]
          refine LoopW.up Tok (fun k : Nat => [(14, (.v (.int .i64 ((k : Int)))))]) (fun k => []) (fun k => []) (fun k => []) (fun k => k ≤ kq.length) (fun k => kq.length - k) (0) (by simp only [sx2, encs, sxR, sevalprocAttr] <;> (try simp) <;> (try omega)) ?_ ?_
          ·omega
          rintro k hk
          simp only [↓sx0, sxE, encs, sevalprocAttr]
          refine BrW.dec (fun hlt => ?_) (fun hlt => ?_)
          ·have hkl : k < kq.length := by omega
           simp only [↓sx0, sxE, encs, sevalprocAttr]
           refine DrawW.plan Tok mixed (.q 0 <| .q 1 <| .q 2 <| .q 3 <| .q 4 <| .q 5 <| .q 6 <| .q 7 <| .q 8 <| .done) (by kernel_rfl) (by kernel_rfl) ?_
           simp only [↓sx0, sxE, encs, sevalprocAttr]
           refine IxW.nat hkl ?_
           simp only [↓sx0, sxE, encs, sevalprocAttr]
           refine IxW.nat hkl ?_
           simp only [↓sx0, sxE, encs, sevalprocAttr]
           refine BrW.no (by simp) ?_
           simp only [↓sx0, sxE, encs, sevalprocAttr]
           repeat ((with_reducible refine Vc.go ?_ fun _ => ?_); (focus (first | omega | (simp only [InK]; omega) | (simp [InK]; done) | (simp [InK]; omega))); simp only [↓sx0, sxE, encs, sevalprocAttr])
           refine ⟨k + 1, StLe.auto (by simp only [sx2, encs, sxR, sevalprocAttr] <;> (try simp) <;> (try omega)), ?_, ?_⟩
           all_goals omega
          ·simp only [↓sx0, sxE, encs, sevalprocAttr]
           repeat ((with_reducible refine Vc.go ?_ fun _ => ?_); (focus (first | omega | (simp only [InK]; omega) | (simp [InK]; done) | (simp [InK]; omega))); simp only [↓sx0, sxE, encs, sevalprocAttr])
           refine BrW.yes (by omega) ?_
           simp only [↓sx0, sxE, encs, sevalprocAttr]
           repeat ((with_reducible refine Vc.go ?_ fun _ => ?_); (focus (first | omega | (simp only [InK]; omega) | (simp [InK]; done) | (simp [InK]; omega))); simp only [↓sx0, sxE, encs, sevalprocAttr])
           have hfin : (mb.length : Int) ≤ (b.length : Int) - (kq.length : Int) := by omega
           refine EndW.fn ?_ ?_ <;> simp only [sx4, encs, kpLL_map, sxR, sevalprocAttr] <;> (try simp [hfin]) <;> (try omega) )
     ·rw [show tmV a b = (([], []), 8) by rw [tmV, if_neg hs]] at cTM
      rw [show keptV a b = ([], 8) by rw [keptV, if_neg hs]] at cK
      apply @cutG _ _ ?br ?tail
      case br =>
       intro hcut
       refine DrawW.plan Tok mixed (.q 0 <| .q 1 <| .q 3 <| .q 4 <| .e2 2 [4] (.e2 5 [] (.e2 6 [] (.q 7 <| .q 8 <| .q 9 <| .e 10 [1, 4] <| .e 11 [] <| .q 12 <| .done) 10 [1, 4] (.e 6 [] <| .q 7 <| .q 8 <| .q 9 <| .e 11 [] <| .q 12 <| .done)) 10 [1, 4] (.e 5 [] <| .e 6 [] <| .q 7 <| .q 8 <| .q 9 <| .e 11 [] <| .q 12 <| .done)) 10 [1, 4] (.e 2 [4] <| .e 5 [] <| .e 6 [] <| .q 7 <| .q 8 <| .q 9 <| .e 11 [] <| .q 12 <| .done)) (by kernel_rfl) (by kernel_rfl) ?_
       simp only [↓sx0, sxE, encs, sevalprocAttr]
       repeat' (first | (with_reducible refine And.intro ?_ ?_) | ((with_reducible refine Vc.go ?_ fun _ => ?_); (focus (first | trivial | omega | (simp only [InK]; omega) | (simp [InK]; done) | (simp [InK]; omega))); (try simp only [↓sx0, sxE, encs, sevalprocAttr])) | (refine CallI.fn (cIa) ?_ ?_; (focus ((simp only [sx3, encs, sxR, sevalprocAttr] <;> (try simp) <;> (try rfl)); done)); (try simp only [↓sx0, sxE, encs, sevalprocAttr])) | (refine CallI.fn (cIb) ?_ ?_; (focus ((simp only [sx3, encs, sxR, sevalprocAttr] <;> (try simp) <;> (try rfl)); done)); (try simp only [↓sx0, sxE, encs, sevalprocAttr])) | (refine CallI.fn (cTM) ?_ ?_; (focus ((simp only [sx3, encs, sxR, sevalprocAttr] <;> (try simp) <;> (try rfl)); done)); (try simp only [↓sx0, sxE, encs, sevalprocAttr])))
       all_goals (
        skip
        refine DrawW.comp [1, 3, 4] (by simp only [sx2, encs, sxR, sevalprocAttr] <;> (try simp) <;> (try omega)) (by simp only [sx2, sxR, sevalprocAttr]; rfl) ?_
        exact hcut.out )
      case tail =>
       apply @cutG _ _ ?br ?tail
       case br =>
        intro hcut
        refine DrawW.plan Tok mixed (.q 0 <| .q 1 <| .q 3 <| .q 4 <| .e 2 [4] <| .e 5 [] <| .e 6 [] <| .q 7 <| .q 8 <| .q 9 <| .q 10 <| .q 11 <| .done) (by kernel_rfl) (by kernel_rfl) ?_
        simp only [↓sx0, sxE, encs, sevalprocAttr]
        repeat' (first | (with_reducible refine And.intro ?_ ?_) | ((with_reducible refine Vc.go ?_ fun _ => ?_); (focus (first | trivial | omega | (simp only [InK]; omega) | (simp [InK]; done) | (simp [InK]; omega))); (try simp only [↓sx0, sxE, encs, sevalprocAttr])) | (refine CallI.fn (cIa) ?_ ?_; (focus ((simp only [sx3, encs, sxR, sevalprocAttr] <;> (try simp) <;> (try rfl)); done)); (try simp only [↓sx0, sxE, encs, sevalprocAttr])) | (refine CallI.fn (cIb) ?_ ?_; (focus ((simp only [sx3, encs, sxR, sevalprocAttr] <;> (try simp) <;> (try rfl)); done)); (try simp only [↓sx0, sxE, encs, sevalprocAttr])) | (refine CallI.fn (cK) ?_ ?_; (focus ((simp only [sx3, encs, sxR, sevalprocAttr] <;> (try simp) <;> (try rfl)); done)); (try simp only [↓sx0, sxE, encs, sevalprocAttr])))
        all_goals (
         skip
         refine DrawW.comp [1, 3, 4, 5, 6] (by simp only [sx2, encs, sxR, sevalprocAttr] <;> (try simp) <;> (try omega)) (by simp only [sx2, sxR, sevalprocAttr]; rfl) ?_
         exact hcut.out )
       case tail =>
        have cFC' := cFC
        have cFR' := cFR
        have cPx' := cPx
        have cPy' := cPy
        by_cases hpx : (partsErr x).2 = 0
        ·by_cases hpy : (partsErr y).2 = 0
         ·rw [show fcA x y = fcV x y by rw [fcA, if_pos hpx, if_pos hpy]] at cFC'
          rw [hpx] at cPx'
          rw [hpy] at cPy'
          obtain ⟨fv, hfv⟩ : ∃ fv, fv = fcV x y := ⟨_, rfl⟩
          rw [← hfv] at cFC' cFR'
          clear hfv
          obtain ⟨⟨v1, v2⟩, v3⟩ := fv
          refine DrawW.plan Tok mixed (.q 0 <| .q 1 <| .q 3 <| .q 4 <| .e2 2 [4] (.e2 5 [] (.e2 6 [] (.q 7 <| .q 8 <| .q 9 <| .e 10 [1, 4] <| .e 11 [] <| .q 12 <| .done) 10 [1, 4] (.e 6 [] <| .q 7 <| .q 8 <| .q 9 <| .e 11 [] <| .q 12 <| .done)) 10 [1, 4] (.e 5 [] <| .e 6 [] <| .q 7 <| .q 8 <| .q 9 <| .e 11 [] <| .q 12 <| .done)) 10 [1, 4] (.e 2 [4] <| .e 5 [] <| .e 6 [] <| .q 7 <| .q 8 <| .q 9 <| .e 11 [] <| .q 12 <| .done)) (by kernel_rfl) (by kernel_rfl) ?_
          simp only [↓sx0, sxE, encs, sevalprocAttr]
          repeat' (first | (with_reducible refine And.intro ?_ ?_) | ((with_reducible refine Vc.go ?_ fun _ => ?_); (focus (first | trivial | omega | (simp only [InK]; omega) | (simp [InK]; done) | (simp [InK]; omega))); (try simp only [↓sx0, sxE, encs, sevalprocAttr])) | (refine CallI.fn (cCx) ?_ ?_; (focus ((simp only [sx3, encs, sxR, sevalprocAttr] <;> (try simp) <;> (try rfl)); done)); (try simp only [↓sx0, sxE, encs, sevalprocAttr])) | (refine CallI.fn (cCy) ?_ ?_; (focus ((simp only [sx3, encs, sxR, sevalprocAttr] <;> (try simp) <;> (try rfl)); done)); (try simp only [↓sx0, sxE, encs, sevalprocAttr])) | (refine CallI.fn (cFC') ?_ ?_; (focus ((simp only [sx3, encs, sxR, sevalprocAttr] <;> (try simp) <;> (try rfl)); done)); (try simp only [↓sx0, sxE, encs, sevalprocAttr])))
          all_goals (
           skip
           refine CallI.fn (cPx') (by simp only [sx3, encs, sxR, sevalprocAttr] <;> (try simp) <;> (try rfl)) ?_
           simp only [↓sx0, sxE, encs, sevalprocAttr]
           refine CallI.fn (cPy') (by simp only [sx3, encs, sxR, sevalprocAttr] <;> (try simp) <;> (try rfl)) ?_
           simp only [↓sx0, sxE, encs, sevalprocAttr]
           refine CallI.fn (cFR') (by simp only [sx3, encs, sxR, sevalprocAttr] <;> (try simp) <;> (try rfl)) ?_
           simp only [↓sx0, sxE, encs, sevalprocAttr]
           refine BrW.no (by simp) ?_
           simp only [↓sx0, sxE, encs, sevalprocAttr]
           refine BrW.no (by simp) ?_
           simp only [↓sx0, sxE, encs, sevalprocAttr]
           by_cases h3 : 300 < a.length
           ·refine BrW.yes (by omega) ?_
            simp only [↓sx0, sxE, encs, sevalprocAttr]
            repeat ((with_reducible refine Vc.go ?_ fun _ => ?_); (focus (first | omega | (simp only [InK]; omega) | (simp [InK]; done) | (simp [InK]; omega))); simp only [↓sx0, sxE, encs, sevalprocAttr])
            refine EndW.fn ?_ ?_ <;> simp only [sx4, encs, kpLL_map, sxR, sevalprocAttr] <;> (try simp) <;> (try omega)
           ·refine BrW.no (by omega) ?_
            simp only [↓sx0, sxE, encs, sevalprocAttr]
            refine BrW.yes (by omega) ?_
            simp only [↓sx0, sxE, encs, sevalprocAttr]
            repeat ((with_reducible refine Vc.go ?_ fun _ => ?_); (focus (first | omega | (simp only [InK]; omega) | (simp [InK]; done) | (simp [InK]; omega))); simp only [↓sx0, sxE, encs, sevalprocAttr])
            refine EndW.fn ?_ ?_ <;> simp only [sx4, encs, kpLL_map, sxR, sevalprocAttr] <;> (try simp) <;> (try omega)
           )
         ·obtain ⟨z, hz⟩ : ∃ z : Nat, z = 0 := ⟨0, rfl⟩
          rw [show fcA x y = ((z, z), (partsErr y).2) by rw [hz, fcA, if_pos hpx, if_neg hpy]] at cFC'
          rw [hpx] at cPx'
          obtain ⟨ey, hey⟩ : ∃ ey, ey = (partsErr y).2 := ⟨_, rfl⟩
          rw [← hey] at cFC' cPy' hpy
          clear hey
          refine DrawW.plan Tok mixed (.q 0 <| .q 1 <| .q 3 <| .q 4 <| .e2 2 [4] (.e2 5 [] (.e2 6 [] (.q 7 <| .q 8 <| .q 9 <| .e 10 [1, 4] <| .e 11 [] <| .q 12 <| .done) 10 [1, 4] (.e 6 [] <| .q 7 <| .q 8 <| .q 9 <| .e 11 [] <| .q 12 <| .done)) 10 [1, 4] (.e 5 [] <| .e 6 [] <| .q 7 <| .q 8 <| .q 9 <| .e 11 [] <| .q 12 <| .done)) 10 [1, 4] (.e 2 [4] <| .e 5 [] <| .e 6 [] <| .q 7 <| .q 8 <| .q 9 <| .e 11 [] <| .q 12 <| .done)) (by kernel_rfl) (by kernel_rfl) ?_
          simp only [↓sx0, sxE, encs, sevalprocAttr]
          repeat' (first | (with_reducible refine And.intro ?_ ?_) | ((with_reducible refine Vc.go ?_ fun _ => ?_); (focus (first | trivial | omega | (simp only [InK]; omega) | (simp [InK]; done) | (simp [InK]; omega))); (try simp only [↓sx0, sxE, encs, sevalprocAttr])) | (refine CallI.fn (cCx) ?_ ?_; (focus ((simp only [sx3, encs, sxR, sevalprocAttr] <;> (try simp) <;> (try rfl)); done)); (try simp only [↓sx0, sxE, encs, sevalprocAttr])) | (refine CallI.fn (cCy) ?_ ?_; (focus ((simp only [sx3, encs, sxR, sevalprocAttr] <;> (try simp) <;> (try rfl)); done)); (try simp only [↓sx0, sxE, encs, sevalprocAttr])) | (refine CallI.fn (cFC') ?_ ?_; (focus ((simp only [sx3, encs, sxR, sevalprocAttr] <;> (try simp) <;> (try rfl)); done)); (try simp only [↓sx0, sxE, encs, sevalprocAttr])))
          all_goals (
           skip
           refine CallI.fn (cPx') (by simp only [sx3, encs, sxR, sevalprocAttr] <;> (try simp) <;> (try rfl)) ?_
           simp only [↓sx0, sxE, encs, sevalprocAttr]
           refine CallI.fn (cPy') (by simp only [sx3, encs, sxR, sevalprocAttr] <;> (try simp) <;> (try rfl)) ?_
           simp only [↓sx0, sxE, encs, sevalprocAttr]
           refine BrW.no hpy ?_
           simp only [↓sx0, sxE, encs, sevalprocAttr]
           refine BrW.no (by simp) ?_
           simp only [↓sx0, sxE, encs, sevalprocAttr]
           refine BrW.no (by simp [hz]) ?_
           simp only [↓sx0, sxE, encs, sevalprocAttr]
           by_cases h3 : 300 < a.length
           ·refine BrW.yes (by omega) ?_
            simp only [↓sx0, sxE, encs, sevalprocAttr]
            repeat ((with_reducible refine Vc.go ?_ fun _ => ?_); (focus (first | omega | (simp only [InK]; omega) | (simp [InK]; done) | (simp [InK]; omega))); simp only [↓sx0, sxE, encs, sevalprocAttr])
            refine EndW.fn ?_ ?_ <;> simp only [sx4, encs, kpLL_map, sxR, sevalprocAttr] <;> (try simp) <;> (try omega)
           ·refine BrW.no (by omega) ?_
            simp only [↓sx0, sxE, encs, sevalprocAttr]
            refine BrW.yes (by omega) ?_
            simp only [↓sx0, sxE, encs, sevalprocAttr]
            repeat ((with_reducible refine Vc.go ?_ fun _ => ?_); (focus (first | omega | (simp only [InK]; omega) | (simp [InK]; done) | (simp [InK]; omega))); simp only [↓sx0, sxE, encs, sevalprocAttr])
            refine EndW.fn ?_ ?_ <;> simp only [sx4, encs, kpLL_map, sxR, sevalprocAttr] <;> (try simp) <;> (try omega)
           )
        ·obtain ⟨z, hz⟩ : ∃ z : Nat, z = 0 := ⟨0, rfl⟩
         rw [show fcA x y = ((z, z), (partsErr x).2) by rw [hz, fcA, if_neg hpx]] at cFC'
         obtain ⟨ex, hex⟩ : ∃ ex, ex = (partsErr x).2 := ⟨_, rfl⟩
         rw [← hex] at cFC' cPx' hpx
         clear hex
         refine DrawW.plan Tok mixed (.q 0 <| .q 1 <| .q 3 <| .q 4 <| .e2 2 [4] (.e2 5 [] (.e2 6 [] (.q 7 <| .q 8 <| .q 9 <| .e 10 [1, 4] <| .e 11 [] <| .q 12 <| .done) 10 [1, 4] (.e 6 [] <| .q 7 <| .q 8 <| .q 9 <| .e 11 [] <| .q 12 <| .done)) 10 [1, 4] (.e 5 [] <| .e 6 [] <| .q 7 <| .q 8 <| .q 9 <| .e 11 [] <| .q 12 <| .done)) 10 [1, 4] (.e 2 [4] <| .e 5 [] <| .e 6 [] <| .q 7 <| .q 8 <| .q 9 <| .e 11 [] <| .q 12 <| .done)) (by kernel_rfl) (by kernel_rfl) ?_
         simp only [↓sx0, sxE, encs, sevalprocAttr]
         repeat' (first | (with_reducible refine And.intro ?_ ?_) | ((with_reducible refine Vc.go ?_ fun _ => ?_); (focus (first | trivial | omega | (simp only [InK]; omega) | (simp [InK]; done) | (simp [InK]; omega))); (try simp only [↓sx0, sxE, encs, sevalprocAttr])) | (refine CallI.fn (cCx) ?_ ?_; (focus ((simp only [sx3, encs, sxR, sevalprocAttr] <;> (try simp) <;> (try rfl)); done)); (try simp only [↓sx0, sxE, encs, sevalprocAttr])) | (refine CallI.fn (cCy) ?_ ?_; (focus ((simp only [sx3, encs, sxR, sevalprocAttr] <;> (try simp) <;> (try rfl)); done)); (try simp only [↓sx0, sxE, encs, sevalprocAttr])) | (refine CallI.fn (cFC') ?_ ?_; (focus ((simp only [sx3, encs, sxR, sevalprocAttr] <;> (try simp) <;> (try rfl)); done)); (try simp only [↓sx0, sxE, encs, sevalprocAttr])))
         all_goals (
          skip
          refine CallI.fn (cPx') (by simp only [sx3, encs, sxR, sevalprocAttr] <;> (try simp) <;> (try rfl)) ?_
          simp only [↓sx0, sxE, encs, sevalprocAttr]
          refine BrW.no hpx ?_
          simp only [↓sx0, sxE, encs, sevalprocAttr]
          refine BrW.no hpx ?_
          simp only [↓sx0, sxE, encs, sevalprocAttr]
          refine BrW.no (by simp) ?_
          simp only [↓sx0, sxE, encs, sevalprocAttr]
          refine BrW.no (by simp [hz]) ?_
          simp only [↓sx0, sxE, encs, sevalprocAttr]
          by_cases h3 : 300 < a.length
          ·refine BrW.yes (by omega) ?_
           simp only [↓sx0, sxE, encs, sevalprocAttr]
           repeat ((with_reducible refine Vc.go ?_ fun _ => ?_); (focus (first | omega | (simp only [InK]; omega) | (simp [InK]; done) | (simp [InK]; omega))); simp only [↓sx0, sxE, encs, sevalprocAttr])
           refine EndW.fn ?_ ?_ <;> simp only [sx4, encs, kpLL_map, sxR, sevalprocAttr] <;> (try simp) <;> (try omega)
          ·refine BrW.no (by omega) ?_
           simp only [↓sx0, sxE, encs, sevalprocAttr]
           refine BrW.yes (by omega) ?_
           simp only [↓sx0, sxE, encs, sevalprocAttr]
           repeat ((with_reducible refine Vc.go ?_ fun _ => ?_); (focus (first | omega | (simp only [InK]; omega) | (simp [InK]; done) | (simp [InK]; omega))); simp only [↓sx0, sxE, encs, sevalprocAttr])
           refine EndW.fn ?_ ?_ <;> simp only [sx4, encs, kpLL_map, sxR, sevalprocAttr] <;> (try simp) <;> (try omega)
          )
    ·simp only [↓sx0, sxE, encs, sevalprocAttr]
     repeat ((with_reducible refine BrW.ff lb ?_); simp only [↓sx0, sxE, encs, sevalprocAttr])
     refine EndW.fn ?_ ?_ <;> simp only [sx4, encs, kpLL_map, sxR, sevalprocAttr] <;> (try simp) <;> (try omega)
   ·simp only [↓sx0, sxE, encs, sevalprocAttr]
    repeat ((with_reducible refine BrW.ff la ?_); simp only [↓sx0, sxE, encs, sevalprocAttr])
    refine EndW.fn ?_ ?_ <;> simp only [sx4, encs, kpLL_map, sxR, sevalprocAttr] <;> (try simp) <;> (try omega)
  ·simp only [↓sx0, sxE, encs, sevalprocAttr]
   repeat ((with_reducible refine BrW.ff ly ?_); simp only [↓sx0, sxE, encs, sevalprocAttr])
   refine EndW.fn ?_ ?_ <;> simp only [sx4, encs, kpLL_map, sxR, sevalprocAttr] <;> (try simp) <;> (try omega)
 ·simp only [↓sx0, sxE, encs, sevalprocAttr]
  repeat ((with_reducible refine BrW.ff lx ?_); simp only [↓sx0, sxE, encs, sevalprocAttr])
  refine EndW.fn ?_ ?_ <;> simp only [sx4, encs, kpLL_map, sxR, sevalprocAttr] <;> (try simp) <;> (try omega)
end Go.Proofs.YthkkcemefngeiaaGreat
