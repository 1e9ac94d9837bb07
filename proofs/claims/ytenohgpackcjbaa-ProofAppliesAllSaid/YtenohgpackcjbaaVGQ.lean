/-
 Chapter 8, walks: marks that turn words of a part into others.
-/
import Derived.Test.YtenohgpackcjbaaVP8K
import Derived.Test.YtenohgpackcjbaaVGN
namespace Go.Proofs.Ytenohgpackcjbaa
open Go Go.Vx
set_option linter.unusedSimpArgs false
set_option linter.unusedVariables false
set_option maxRecDepth 20000
theorem marksOf1_s (s : ByteArray) : Ctr Try.prog 88 [(.v (.string (s)))] (fun rr => rr = ⟨(.v (.bool (isMk s))), []⟩) := by
 refine Ctr.of (rs := [.tmp 2]) Tok true Try.func88 rfl rfl rfl rfl (by simp [ofDL]) (fun w0 kp => ?_)
 simp only [↓sx0, sxE, encs, sevalprocAttr]
 by_cases h : s = ⟨#[35]⟩
 ·repeat ((with_reducible refine BrW.yes h ?_); simp only [↓sx0, sxE, encs, sevalprocAttr])
  have : isMk ⟨#[35]⟩ = true := by decide
  subst h
  refine EndW.fn ?_ ?_ <;> simp only [sx4, encs, kpLL_map, sxR, sevalprocAttr] <;> (try simp [this]) <;> (try omega)
 ·repeat ((with_reducible refine BrW.no h ?_); simp only [↓sx0, sxE, encs, sevalprocAttr])
  have : isMk s = decide (s = ⟨#[94]⟩) := by rw [isMk, show decide (s = hash) = false from decide_eq_false h, Bool.false_or]; rfl
  refine EndW.fn ?_ ?_ <;> simp only [sx4, encs, kpLL_map, sxR, sevalprocAttr] <;> (try simp [this, h]) <;> (try omega)
def hasT (s : ByteArray) (l : List ByteArray) : Bool := l.any fun x => decide (x = s)
theorem hasText_s (b : Bool) (l : List ByteArray) (s : ByteArray) (hl : l.length ≤ 1000000000) : Ctr Try.prog 89 [.sl b 1 (l.map eS), (.v (.string (s)))] (fun rr => rr = ⟨(.v (.bool (hasT s l))), []⟩) := by
 refine Ctr.of (rs := [.tmp 4]) Tok true Try.func89 rfl rfl rfl rfl (by simp [ofDL]) (fun w0 kp => ?_)
 simp only [↓sx0, sxE, encs, sevalprocAttr]
 refine LoopW.comp [0, 1, 5] (by simp only [sx2, encs, sxR, sevalprocAttr] <;> (try simp) <;> (try omega)) ?_
 simp only [sx2, sxR, sevalprocAttr]
 refine LoopW.up Tok (fun k : Nat => [(5, (.v (.int .i64 k)))]) (fun k => []) (fun k => []) (fun k => []) (fun k => k ≤ l.length ∧ hasT s (l.take k) = false) (fun k => l.length - k) (0) (by simp only [sx2, encs, sxR, sevalprocAttr] <;> (try simp) <;> (try omega)) ?_ ?_
 ·exact ⟨by omega, by simp [hasT]⟩
 rintro k ⟨hk, ht⟩
 simp only [↓sx0, sxE, encs, sevalprocAttr]
 refine BrW.dec (fun hlt => ?_) (fun hlt => ?_)
 ·simp only [↓sx0, sxE, encs, sevalprocAttr]
  have hkl : k < l.length := by omega
  refine IxW.nat hkl ?_
  simp only [↓sx0, sxE, encs, sevalprocAttr]
  refine BrW.dec (fun hq => ?_) (fun hq => ?_)
  ·have : hasT s l = true := by rw [hasT, List.any_eq_true]; exact ⟨_, List.getElem_mem hkl, by simp [hq]⟩
   simp only [↓sx0, sxE, encs, sevalprocAttr]
   refine EndW.fn ?_ ?_ <;> simp only [sx4, encs, kpLL_map, sxR, sevalprocAttr] <;> (try simp [this]) <;> (try omega)
  ·simp only [↓sx0, sxE, encs, sevalprocAttr]
   repeat ((with_reducible refine Vc.go ?_ fun _ => ?_); (focus (first | omega | (simp only [InK]; omega) | (simp [InK]; done) | (simp [InK]; omega))); simp only [↓sx0, sxE, encs, sevalprocAttr])
   refine ⟨k + 1, StLe.auto (by simp only [sx2, encs, sxR, sevalprocAttr] <;> (try simp) <;> (try omega)), ?_, ?_⟩
   ·refine ⟨hkl, ?_⟩
    simp only [hasT] at ht
    simp only [hasT]
    rw [List.take_succ_eq_append_getElem hkl, List.any_append, ht]
    simp [hq]
   ·omega
 ·simp only [↓sx0, sxE, encs, sevalprocAttr]
  have hke : k = l.length := by omega
  subst hke
  rw [List.take_length] at ht
  refine EndW.fn ?_ ?_ <;> simp only [sx4, encs, kpLL_map, sxR, sevalprocAttr] <;> (try simp [ht]) <;> (try omega)
/-- the error of words that marks are asked for. -/
def mofE (a b : List ByteArray) (part : Int) : Int :=
 if wdsErr a b = 0 then (if (a ++ b).any isMk = true then 3 else if a.length = 0 ∨ b.length = 0 then 10 else if 0 ≤ part ∧ part ≤ 59 then 0 else 2) else wdsErr a b
def mofV (a b : List ByteArray) (part : Int) : List Mk × Int := if mofE a b part = 0 then (moL part a b (lsE a b) 0, 0) else ([], mofE a b part)
structure MO where
 n : Nat
 k : Nat
 out : List Mk
set_option maxHeartbeats 16000000 in
theorem marksOf_s (a b : List ByteArray) (part : Int) (ha : AllSz a) (hb : AllSz b) : Ctr Try.prog 50 [.sl true 1 (a.map eS), .sl true 1 (b.map eS), (.v (.int .i64 part))] (fun rr => rr = ⟨.tup [.sl true 7 ((mofV a b part).1.map eM), (.v (.int .i64 ((mofV a b part).2)))], []⟩) := by
 have encs := And.intro encs (And.intro (show ∀ p, eSL p = [.sl p.1 1 (p.2.map eS)] from fun _ => rfl) (And.intro (show ∀ b1 b2 a b, gV b1 b2 a b = .agg [.sl b1 1 (a.map eS), .sl b2 1 (b.map eS)] from fun _ _ _ _ => rfl) (And.intro (show em = ⟨#[]⟩ from rfl) prE)))
 refine Ctr.of (rs := [.tmp 6, .tmp 7]) Tok true Try.func50 rfl rfl rfl rfl (by simp [ofDL]) (fun w0 kp => ?_)
 simp only [↓sx0, sxE, encs, sevalprocAttr]
 refine CallI.fn (checkWords_s true true a b ha hb) (by simp only [sx3, encs, sxR, sevalprocAttr] <;> (try simp) <;> (try rfl)) ?_
 simp only [↓sx0, sxE, encs, sevalprocAttr]
 refine BrW.dec (fun he => ?_) (fun he => ?_)
 ·have hv : mofV a b part = ([], wdsErr a b) := by rw [mofV, mofE, if_neg he, if_neg he]
  rw [hv]
  simp only [↓sx0, sxE, encs, sevalprocAttr]
  refine EndW.fn ?_ ?_ <;> simp only [sx4, encs, kpLL_map, sxR, sevalprocAttr] <;> (try simp) <;> (try omega)
 ·have he := Decidable.not_not.1 he
  obtain ⟨h1, h2⟩ := wds_len he
  have hc : cat [(true, a), (true, b)] = a ++ b := by simp [cat]
  simp only [↓sx0, sxE, encs, sevalprocAttr]
  refine CallI.ctr (concat_s false [(true, a), (true, b)] (by simp) (by rw [hc, List.length_append]; omega)) (by simp only [sx3, encs, sxR, sevalprocAttr] <;> (try simp) <;> (try rfl)) ?_
  rintro _ rfl
  rw [hc]
  simp only [↓sx0, sxE, encs, sevalprocAttr]
  refine CallI.fn (containsS_s false 88 isMk (a ++ b) (by rw [List.length_append]; omega) (fun x _ => marksOf1_s x)) (by simp only [sx3, encs, sxR, sevalprocAttr] <;> (try simp) <;> (try rfl)) ?_
  simp only [↓sx0, sxE, encs, sevalprocAttr]
  refine BrW.of (fun hm => ?_) (fun hm => ?_)
  ·have hv : mofV a b part = ([], 3) := by rw [mofV, mofE, if_pos he, if_pos hm]; rfl
   rw [hv]
   simp only [↓sx0, sxE, encs, sevalprocAttr]
   refine EndW.fn ?_ ?_ <;> simp only [sx4, encs, kpLL_map, sxR, sevalprocAttr] <;> (try simp) <;> (try omega)
  ·have hm' : ¬ (a ++ b).any isMk = true := by rw [hm]; simp
   simp only [↓sx0, sxE, encs, sevalprocAttr]
   by_cases ha0 : a.length = 0
   ·have hv : mofV a b part = ([], 10) := by rw [mofV, show mofE a b part = 10 by rw [mofE, if_pos he, if_neg hm', if_pos (Or.inl ha0)]]; rfl
    rw [hv]
    repeat ((with_reducible refine BrW.yes (by omega) ?_); simp only [↓sx0, sxE, encs, sevalprocAttr])
    refine EndW.fn ?_ ?_ <;> simp only [sx4, encs, kpLL_map, sxR, sevalprocAttr] <;> (try simp) <;> (try omega)
   ·repeat ((with_reducible refine BrW.no (by omega) ?_); simp only [↓sx0, sxE, encs, sevalprocAttr])
    repeat ((with_reducible refine Vc.go ?_ fun _ => ?_); (focus (first | omega | (simp only [InK]; omega) | (simp [InK]; done) | (simp [InK]; omega))); simp only [↓sx0, sxE, encs, sevalprocAttr])
    by_cases hb0 : b.length = 0
    ·have hv : mofV a b part = ([], 10) := by rw [mofV, show mofE a b part = 10 by rw [mofE, if_pos he, if_neg hm', if_pos (Or.inr hb0)]]; rfl
     rw [hv]
     repeat ((with_reducible refine BrW.yes (by omega) ?_); simp only [↓sx0, sxE, encs, sevalprocAttr])
     refine EndW.fn ?_ ?_ <;> simp only [sx4, encs, kpLL_map, sxR, sevalprocAttr] <;> (try simp) <;> (try omega)
    ·repeat ((with_reducible refine BrW.no (by omega) ?_); simp only [↓sx0, sxE, encs, sevalprocAttr])
     refine CallI.fn (within_s part 0 59) (by simp only [sx3, encs, sxR, sevalprocAttr] <;> (try simp) <;> (try rfl)) ?_
     simp only [↓sx0, sxE, encs, sevalprocAttr]
     have hab : ¬ (a.length = 0 ∨ b.length = 0) := by omega
     by_cases hp : 0 ≤ part ∧ part ≤ 59
     ·have hv : mofV a b part = (moL part a b (lsE a b) 0, 0) := by rw [mofV, show mofE a b part = 0 by rw [mofE, if_pos he, if_neg hm', if_neg hab, if_pos hp]]; rfl
      rw [hv]
      refine BrW.yes hp ?_
      simp only [↓sx0, sxE, encs, sevalprocAttr]
      have hes := edits_s a b h1 h2
      rw [show (edB a b (a.length + b.length) a.length b.length).reverse = lsE a b from rfl] at hes
      have hrun := lsE_cost a b
      have hll := lsE_len a b
      generalize lsE a b = L at hes hrun hll ⊢
      refine DrawW.plan Tok mixed (.q 0 <| .q 1 <| .q 5 <| .e 2 [0] <| .e 3 [] <| .q 4 <| .done) (by kernel_rfl) (by kernel_rfl) ?_
      simp only [↓sx0, sxE, encs, sevalprocAttr]
      refine CallI.fn (labels_s a b h1 h2) (by simp only [sx3, encs, sxR, sevalprocAttr] <;> (try simp) <;> (try rfl)) ?_
      simp only [↓sx0, sxE, encs, sevalprocAttr]
      refine CallI.fn (hes) (by simp only [sx3, encs, sxR, sevalprocAttr] <;> (try simp) <;> (try rfl)) ?_
      simp only [↓sx0, sxE, encs, sevalprocAttr]
      refine LoopW.comp [0, 1, 2, 10, 11, 46, 47, 48] (by simp only [sx2, encs, sxR, sevalprocAttr] <;> (try simp) <;> (try omega)) ?_
      simp only [sx2, sxR, sevalprocAttr]
      refine LoopW.up Tok (fun s : MO => [(10, .row 0), (11, (.v (.int .i64 ((s.k : Int))))), (48, (.v (.int .i64 s.n)))]) (fun s => []) (fun s => []) (fun s => [.own 24 7 (s.out.map eM)]) (fun s => (s.n ≤ L.length ∧ s.k ≤ b.length ∧ s.out.length ≤ s.n) ∧ (∃ i c, i ≤ a.length ∧ (edF a b (L.drop s.n) i s.k c).2 = 0) ∧ s.out ++ moL part a b (L.drop s.n) s.k = moL part a b L 0) (fun s => L.length - s.n) (⟨0, 0, []⟩) (by simp only [sx2, encs, sxR, sevalprocAttr] <;> (try simp) <;> (try omega)) ?_ ?_
      ·exact ⟨⟨by simp, by simp, by simp⟩, ⟨0, 0, by omega, by rw [List.drop_zero, hrun]⟩, rfl⟩
      rintro ⟨n, k, out⟩ ⟨⟨g1, g2, g3⟩, ⟨i, c, g4, g5⟩, hM⟩
      simp only at g1 g2 g3 g4 g5 hM
      simp only [↓sx0, sxE, encs, sevalprocAttr]
      refine BrW.dec (fun hlt => ?_) (fun hlt => ?_)
      ·simp only [↓sx0, sxE, encs, sevalprocAttr]
       have hnl : n < L.length := by omega
       have hd : L.drop n = L[n] :: L.drop (n + 1) := List.drop_eq_getElem_cons hnl
       rw [hd] at g5 hM
       refine IxW.nat hnl ?_
       simp only [↓sx0, sxE, encs, sevalprocAttr]
       obtain ⟨e1, hc⟩ := edF_step g5
       rw [e1] at g5
       rw [moL] at hM
       generalize L[n] = x at hc g5 hM ⊢
       obtain ⟨fr, to⟩ := x
       simp only at hc g5 hM ⊢
       have gi : ∀ h : i < a.length, a.getD ((i : Int)).toNat em = a[i] := fun h => by simp [List.getD_eq_getElem?_getD, List.getElem?_eq_getElem h]
       have gk : ∀ h : k < b.length, b.getD ((k : Int)).toNat em = b[k] := fun h => by simp [List.getD_eq_getElem?_getD, List.getElem?_eq_getElem h]
       rcases hc with ⟨rfl, rfl, h3⟩ | ⟨rfl, rfl, h3⟩ | ⟨⟨rfl, h3⟩, rfl, h4⟩
       ·have hmm : moM part a b ⟨(i : Int), -1⟩ k = some ⟨1, part, k, a[i], em, 0, 0⟩ := by rw [moM]; simp only; rw [if_pos trivial, gi h3]
        rw [hmm, nxI_m, Option.toList_some, List.singleton_append] at hM
        rw [nxI_s _ _ rfl, nxI_m] at g5
        simp only [↓sx0, sxE, encs, sevalprocAttr]
        refine DrawW.plan Tok mixed (.q 0 <| .q 1 <| .q 2 <| .q 3 <| .q 4 <| .q 5 <| .e 6 [2, 4] <| .q 7 <| .e 8 [] <| .done) (by kernel_rfl) (by kernel_rfl) ?_
        simp only [↓sx0, sxE, encs, sevalprocAttr]
        refine IxW.nat h3 ?_
        simp only [↓sx0, sxE, encs, sevalprocAttr]
        repeat ((with_reducible refine Vc.go ?_ fun _ => ?_); (focus (first | omega | (simp only [InK]; omega) | (simp [InK]; done) | (simp [InK]; omega))); simp only [↓sx0, sxE, encs, sevalprocAttr])
        refine BrW.no (by simp) ?_
        simp only [↓sx0, sxE, encs, sevalprocAttr]
        repeat ((with_reducible refine Vc.go ?_ fun _ => ?_); (focus (first | omega | (simp only [InK]; omega) | (simp [InK]; done) | (simp [InK]; omega))); simp only [↓sx0, sxE, encs, sevalprocAttr])
        refine ⟨⟨n + 1, k, out ++ [⟨1, part, k, a[i], em, 0, 0⟩]⟩, StLe.auto (by simp only [sx2, encs, sxR, sevalprocAttr] <;> (try simp [eM, encs]) <;> (try omega)), ?_, ?_⟩
        ·exact ⟨⟨by simp only; omega, by simp only; omega, by simp; omega⟩, ⟨i + 1, _, by omega, g5⟩, by rw [← hM]; simp⟩
        ·simp only; omega
       ·have hmm : moM part a b ⟨-1, (k : Int)⟩ k = some ⟨2, part, k, em, b[k], 0, 0⟩ := by rw [moM]; simp only; rw [if_neg (by omega), if_pos trivial, gk h3]
        rw [hmm, nxI_s _ _ rfl, Option.toList_some, List.singleton_append] at hM
        rw [nxI_s _ _ rfl, nxI_m] at g5
        refine BrW.no (by omega) ?_
        simp only [↓sx0, sxE, encs, sevalprocAttr]
        refine DrawW.plan Tok mixed (.q 0 <| .q 1 <| .q 2 <| .q 3 <| .q 4 <| .q 5 <| .e 6 [2, 4] <| .q 7 <| .e 8 [] <| .done) (by kernel_rfl) (by kernel_rfl) ?_
        simp only [↓sx0, sxE, encs, sevalprocAttr]
        refine IxW.nat h3 ?_
        simp only [↓sx0, sxE, encs, sevalprocAttr]
        repeat ((with_reducible refine Vc.go ?_ fun _ => ?_); (focus (first | omega | (simp only [InK]; omega) | (simp [InK]; done) | (simp [InK]; omega))); simp only [↓sx0, sxE, encs, sevalprocAttr])
        repeat ((with_reducible refine BrW.yes (by omega) ?_); simp only [↓sx0, sxE, encs, sevalprocAttr])
        repeat ((with_reducible refine Vc.go ?_ fun _ => ?_); (focus (first | omega | (simp only [InK]; omega) | (simp [InK]; done) | (simp [InK]; omega))); simp only [↓sx0, sxE, encs, sevalprocAttr])
        refine ⟨⟨n + 1, k + 1, out ++ [⟨2, part, k, em, b[k], 0, 0⟩]⟩, StLe.auto (by simp only [sx2, encs, sxR, sevalprocAttr] <;> (try simp [eM, encs]) <;> (try omega)), ?_, ?_⟩
        ·exact ⟨⟨by simp only; omega, by simp only; omega, by simp; omega⟩, ⟨i, _, by omega, g5⟩, by rw [← hM]; simp⟩
        ·simp only; omega
       ·rw [nxI_s _ _ rfl] at hM
        rw [nxI_s _ _ rfl, nxI_s _ _ rfl] at g5
        refine BrW.no (by omega) ?_
        simp only [↓sx0, sxE, encs, sevalprocAttr]
        refine DrawW.plan Tok mixed (.q 0 <| .q 1 <| .q 2 <| .q 3 <| .q 4 <| .q 5 <| .q 6 <| .q 7 <| .q 8 <| .q 9 <| .q 10 <| .q 11 <| .done) (by kernel_rfl) (by kernel_rfl) ?_
        simp only [↓sx0, sxE, encs, sevalprocAttr]
        refine IxW.nat h3 ?_
        simp only [↓sx0, sxE, encs, sevalprocAttr]
        refine IxW.nat h4 ?_
        simp only [↓sx0, sxE, encs, sevalprocAttr]
        refine BrW.dec (fun hab2 => ?_) (fun hab2 => ?_)
        ·have hmm : moM part a b ⟨(i : Int), (k : Int)⟩ k = some ⟨3, part, k, a[i], b[k], 0, 0⟩ := by rw [moM]; simp only; rw [if_neg (by omega), if_neg (by omega), gi h3, gk h4, if_pos hab2]
         rw [hmm, Option.toList_some, List.singleton_append] at hM
         simp only [↓sx0, sxE, encs, sevalprocAttr]
         refine DrawW.plan Tok mixed (.q 0 <| .q 1 <| .q 2 <| .q 3 <| .q 4 <| .q 5 <| .q 6 <| .q 7 <| .q 8 <| .q 9 <| .q 10 <| .e 11 [2, 4, 7, 9] <| .q 12 <| .e 13 [7, 9] <| .q 14 <| .e 15 [] <| .done) (by kernel_rfl) (by kernel_rfl) ?_
         simp only [↓sx0, sxE, encs, sevalprocAttr]
         refine IxW.nat h3 ?_
         simp only [↓sx0, sxE, encs, sevalprocAttr]
         refine IxW.nat h4 ?_
         simp only [↓sx0, sxE, encs, sevalprocAttr]
         repeat ((with_reducible refine Vc.go ?_ fun _ => ?_); (focus (first | omega | (simp only [InK]; omega) | (simp [InK]; done) | (simp [InK]; omega))); simp only [↓sx0, sxE, encs, sevalprocAttr])
         repeat ((with_reducible refine BrW.yes (by omega) ?_); simp only [↓sx0, sxE, encs, sevalprocAttr])
         repeat ((with_reducible refine Vc.go ?_ fun _ => ?_); (focus (first | omega | (simp only [InK]; omega) | (simp [InK]; done) | (simp [InK]; omega))); simp only [↓sx0, sxE, encs, sevalprocAttr])
         refine ⟨⟨n + 1, k + 1, out ++ [⟨3, part, k, a[i], b[k], 0, 0⟩]⟩, StLe.auto (by simp only [sx2, encs, sxR, sevalprocAttr] <;> (try simp [eM, encs]) <;> (try omega)), ?_, ?_⟩
         ·exact ⟨⟨by simp only; omega, by simp only; omega, by simp; omega⟩, ⟨i + 1, _, by omega, g5⟩, by rw [← hM]; simp⟩
         ·simp only; omega
        ·have hmm : moM part a b ⟨(i : Int), (k : Int)⟩ k = none := by rw [moM]; simp only; rw [if_neg (by omega), if_neg (by omega), gi h3, gk h4, if_neg hab2]
         rw [hmm, Option.toList_none, List.nil_append] at hM
         simp only [↓sx0, sxE, encs, sevalprocAttr]
         refine BrW.no (by simp) ?_
         simp only [↓sx0, sxE, encs, sevalprocAttr]
         repeat ((with_reducible refine BrW.yes (by omega) ?_); simp only [↓sx0, sxE, encs, sevalprocAttr])
         repeat ((with_reducible refine Vc.go ?_ fun _ => ?_); (focus (first | omega | (simp only [InK]; omega) | (simp [InK]; done) | (simp [InK]; omega))); simp only [↓sx0, sxE, encs, sevalprocAttr])
         refine ⟨⟨n + 1, k + 1, out⟩, StLe.auto (by simp only [sx2, encs, sxR, sevalprocAttr] <;> (try simp [eM, encs]) <;> (try omega)), ?_, ?_⟩
         ·exact ⟨⟨by simp only; omega, by simp only; omega, by simp only; omega⟩, ⟨i + 1, _, by omega, g5⟩, hM⟩
         ·simp only; omega
      ·have hne : n = L.length := by omega
       subst hne
       rw [List.drop_length, moL, List.append_nil] at hM
       rw [← hM]
       simp only [↓sx0, sxE, encs, sevalprocAttr]
       refine EndW.fn ?_ ?_ <;> simp only [sx4, encs, kpLL_map, sxR, sevalprocAttr] <;> (try simp) <;> (try omega)
     ·have hv : mofV a b part = ([], 2) := by rw [mofV, show mofE a b part = 2 by rw [mofE, if_pos he, if_neg hm', if_neg hab, if_neg hp]]; rfl
      rw [hv]
      refine BrW.no hp ?_
      simp only [↓sx0, sxE, encs, sevalprocAttr]
      refine EndW.fn ?_ ?_ <;> simp only [sx4, encs, kpLL_map, sxR, sevalprocAttr] <;> (try simp) <;> (try omega)
end Go.Proofs.Ytenohgpackcjbaa
/-
 Chapter 8, walks: the law of marks of edits.
-/
namespace Go.Proofs.Ytenohgpackcjbaa
open Go Go.Vx
set_option linter.unusedSimpArgs false
set_option linter.unusedVariables false
set_option maxRecDepth 20000
theorem anyMk (l : List ByteArray) : l.any isMk = (hasT ⟨#[35]⟩ l || hasT ⟨#[94]⟩ l) := by
 induction l with
 | nil => rfl
 | cons x l ih =>
  simp only [List.any_cons, hasT] at ih ⊢
  rw [ih, show isMk x = (decide (x = ⟨#[35]⟩) || decide (x = ⟨#[94]⟩)) from rfl]
  cases decide (x = ⟨#[35]⟩) <;> cases decide (x = ⟨#[94]⟩) <;> simp
theorem mofE_0 {a b : List ByteArray} {part : Int} (he : ¬ wdsErr a b = 0) : mofE a b part = wdsErr a b := by rw [mofE, if_neg he]
theorem mofE_3 {a b : List ByteArray} {part : Int} (he : wdsErr a b = 0) (h : (a ++ b).any isMk = true) : mofE a b part = 3 := by rw [mofE, if_pos he, if_pos h]
theorem mofE_n {a b : List ByteArray} {part : Int} (he : wdsErr a b = 0) (h : (a ++ b).any isMk = false) : mofE a b part = if a.length = 0 ∨ b.length = 0 then 10 else if 0 ≤ part ∧ part ≤ 59 then 0 else 2 := by rw [mofE, if_pos he, if_neg (by rw [h]; simp)]
theorem checkMarksOfR_s (b1 b2 : Bool) (a b : List ByteArray) (part : Int) (ha : AllSz a) (hb : AllSz b) : Ctr Try.prog 51 [.sl b1 1 (a.map eS), .sl b2 1 (b.map eS), (.v (.int .i64 part))] (fun rr => rr = ⟨(.v (.int .i64 (mofE a b part))), []⟩) := by
 refine Ctr.of (rs := [.tmp 6]) Tok true Try.func51 rfl rfl rfl rfl (by simp [ofDL]) (fun w0 kp => ?_)
 simp only [↓sx0, sxE, encs, sevalprocAttr]
 refine CallI.fn (compared_s b1 b2 a b ha hb) (by simp only [sx3, encs, sxR, sevalprocAttr] <;> (try simp) <;> (try rfl)) ?_
 simp only [↓sx0, sxE, encs, sevalprocAttr]
 refine BrW.dec (fun he => ?_) (fun he => ?_)
 ·rw [mofE_0 he]
  simp only [↓sx0, sxE, encs, sevalprocAttr]
  refine EndW.fn ?_ ?_ <;> simp only [sx4, encs, kpLL_map, sxR, sevalprocAttr] <;> (try simp) <;> (try omega)
 ·have he := Decidable.not_not.1 he
  obtain ⟨h1, h2⟩ := wds_len he
  have hany : (a ++ b).any isMk = ((hasT ⟨#[35]⟩ a || hasT ⟨#[94]⟩ a) || (hasT ⟨#[35]⟩ b || hasT ⟨#[94]⟩ b)) := by rw [List.any_append, anyMk, anyMk]
  simp only [↓sx0, sxE, encs, sevalprocAttr]
  refine CallI.fn (hasText_s b1 a ⟨#[35]⟩ (by omega)) (by simp only [sx3, encs, sxR, sevalprocAttr] <;> (try simp) <;> (try rfl)) ?_
  simp only [↓sx0, sxE, encs, sevalprocAttr]
  refine BrW.of (fun q1 => ?_) (fun q1 => ?_)
  ·rw [mofE_3 he (by rw [hany, q1]; simp)]
   simp only [↓sx0, sxE, encs, sevalprocAttr]
   repeat ((with_reducible refine BrW.tt q1 ?_); simp only [↓sx0, sxE, encs, sevalprocAttr])
   refine EndW.fn ?_ ?_ <;> simp only [sx4, encs, kpLL_map, sxR, sevalprocAttr] <;> (try simp) <;> (try omega)
  ·simp only [↓sx0, sxE, encs, sevalprocAttr]
   repeat ((with_reducible refine BrW.ff q1 ?_); simp only [↓sx0, sxE, encs, sevalprocAttr])
   refine CallI.fn (hasText_s b1 a ⟨#[94]⟩ (by omega)) (by simp only [sx3, encs, sxR, sevalprocAttr] <;> (try simp) <;> (try rfl)) ?_
   simp only [↓sx0, sxE, encs, sevalprocAttr]
   refine BrW.of (fun q2 => ?_) (fun q2 => ?_)
   ·rw [mofE_3 he (by rw [hany, q2]; simp)]
    simp only [↓sx0, sxE, encs, sevalprocAttr]
    repeat ((with_reducible refine BrW.tt q2 ?_); simp only [↓sx0, sxE, encs, sevalprocAttr])
    refine EndW.fn ?_ ?_ <;> simp only [sx4, encs, kpLL_map, sxR, sevalprocAttr] <;> (try simp) <;> (try omega)
   ·simp only [↓sx0, sxE, encs, sevalprocAttr]
    repeat ((with_reducible refine BrW.ff q2 ?_); simp only [↓sx0, sxE, encs, sevalprocAttr])
    refine CallI.fn (hasText_s b2 b ⟨#[35]⟩ (by omega)) (by simp only [sx3, encs, sxR, sevalprocAttr] <;> (try simp) <;> (try rfl)) ?_
    simp only [↓sx0, sxE, encs, sevalprocAttr]
    refine BrW.of (fun q3 => ?_) (fun q3 => ?_)
    ·rw [mofE_3 he (by rw [hany, q3]; simp)]
     simp only [↓sx0, sxE, encs, sevalprocAttr]
     repeat ((with_reducible refine BrW.tt q3 ?_); simp only [↓sx0, sxE, encs, sevalprocAttr])
     refine EndW.fn ?_ ?_ <;> simp only [sx4, encs, kpLL_map, sxR, sevalprocAttr] <;> (try simp) <;> (try omega)
    ·simp only [↓sx0, sxE, encs, sevalprocAttr]
     repeat ((with_reducible refine BrW.ff q3 ?_); simp only [↓sx0, sxE, encs, sevalprocAttr])
     refine CallI.fn (hasText_s b2 b ⟨#[94]⟩ (by omega)) (by simp only [sx3, encs, sxR, sevalprocAttr] <;> (try simp) <;> (try rfl)) ?_
     simp only [↓sx0, sxE, encs, sevalprocAttr]
     refine BrW.of (fun q4 => ?_) (fun q4 => ?_)
     ·rw [mofE_3 he (by rw [hany, q4]; simp)]
      simp only [↓sx0, sxE, encs, sevalprocAttr]
      repeat ((with_reducible refine BrW.tt q4 ?_); simp only [↓sx0, sxE, encs, sevalprocAttr])
      refine EndW.fn ?_ ?_ <;> simp only [sx4, encs, kpLL_map, sxR, sevalprocAttr] <;> (try simp) <;> (try omega)
     ·simp only [↓sx0, sxE, encs, sevalprocAttr]
      repeat ((with_reducible refine BrW.ff q4 ?_); simp only [↓sx0, sxE, encs, sevalprocAttr])
      rw [mofE_n he (by rw [hany, q1, q2, q3, q4]; rfl)]
      by_cases ha0 : a.length = 0
      ·rw [if_pos (Or.inl ha0)]
       repeat ((with_reducible refine BrW.yes (by omega) ?_); simp only [↓sx0, sxE, encs, sevalprocAttr])
       refine EndW.fn ?_ ?_ <;> simp only [sx4, encs, kpLL_map, sxR, sevalprocAttr] <;> (try simp) <;> (try omega)
      ·repeat ((with_reducible refine BrW.no (by omega) ?_); simp only [↓sx0, sxE, encs, sevalprocAttr])
       repeat ((with_reducible refine Vc.go ?_ fun _ => ?_); (focus (first | omega | (simp only [InK]; omega) | (simp [InK]; done) | (simp [InK]; omega))); simp only [↓sx0, sxE, encs, sevalprocAttr])
       by_cases hb0 : b.length = 0
       ·rw [if_pos (Or.inr hb0)]
        repeat ((with_reducible refine BrW.yes (by omega) ?_); simp only [↓sx0, sxE, encs, sevalprocAttr])
        refine EndW.fn ?_ ?_ <;> simp only [sx4, encs, kpLL_map, sxR, sevalprocAttr] <;> (try simp) <;> (try omega)
       ·rw [if_neg (by omega)]
        repeat ((with_reducible refine BrW.no (by omega) ?_); simp only [↓sx0, sxE, encs, sevalprocAttr])
        refine CallI.fn (withinB_s part 0 59) (by simp only [sx3, encs, sxR, sevalprocAttr] <;> (try simp) <;> (try rfl)) ?_
        simp only [↓sx0, sxE, encs, sevalprocAttr]
        by_cases hp : 0 ≤ part ∧ part ≤ 59
        ·rw [if_pos hp]
         repeat ((with_reducible refine BrW.yes hp ?_); simp only [↓sx0, sxE, encs, sevalprocAttr])
         refine EndW.fn ?_ ?_ <;> simp only [sx4, encs, kpLL_map, sxR, sevalprocAttr] <;> (try simp) <;> (try omega)
        ·rw [if_neg hp]
         repeat ((with_reducible refine BrW.no hp ?_); simp only [↓sx0, sxE, encs, sevalprocAttr])
         refine EndW.fn ?_ ?_ <;> simp only [sx4, encs, kpLL_map, sxR, sevalprocAttr] <;> (try simp) <;> (try omega)
set_option maxHeartbeats 4000000 in
theorem copyOfP_s (b b2 : Bool) (l : List Pt) (hl : l.length ≤ 1000000) (hw : ∀ p ∈ l, p.words.length ≤ 1000000) : Ctr Try.prog 19 [.sl b 2 (l.map (eP b2))] (fun rr => rr = ⟨.row 0, [.own 93 2 (l.map (eP true))]⟩) := by
 refine Ctr.of (rs := [.tmp 2]) Tok false Try.func19 rfl rfl rfl rfl (by simp [ofDL]) (fun w0 kp => ?_)
 simp only [↓sx0, sxE, encs, sevalprocAttr]
 refine LoopW.inv Tok (fun k : Nat => ⟨[(3, .row 0), (4, (.v (.int .i64 k))), (0, .sl b 2 (l.map (eP b2)))], [], [.own 93 2 ((l.take k).map (eP true))]⟩) (fun k => k ≤ l.length) (fun k => l.length - k) 0 (StLe.auto ?_) (Nat.zero_le _) ?_
 ·simp only [List.take_zero, List.map_nil]
  simp only [sx2, encs, sxR, sevalprocAttr] <;> (try simp) <;> (try omega)
 rintro k hk
 simp only [↓sx0, sxE, encs, sevalprocAttr]
 refine BrW.dec (fun hlt => ?_) (fun hlt => ?_)
 ·simp only [↓sx0, sxE, encs, sevalprocAttr]
  have hkl : k < l.length := by omega
  refine DrawW.plan Tok mixed (.q 0 <| .q 1 <| .q 2 <| .q 3 <| .q 4 <| .q 5 <| .q 6 <| .q 7 <| .q 8 <| .q 9 <| .q 10 <| .e 11 [5] <| .q 12 <| .e 13 [] <| .e 14 [] <| .q 15 <| .done) (by kernel_rfl) (by kernel_rfl) ?_
  simp only [↓sx0, sxE, encs, sevalprocAttr]
  refine IxW.nat hkl ?_
  simp only [↓sx0, sxE, encs, sevalprocAttr]
  refine IxW.nat hkl ?_
  simp only [↓sx0, sxE, encs, sevalprocAttr]
  refine CallI.fn (copyTexts_s b2 l[k].words (hw _ (List.getElem_mem hkl))) (by simp only [sx3, encs, sxR, sevalprocAttr] <;> (try simp) <;> (try rfl)) ?_
  simp only [↓sx0, sxE, encs, sevalprocAttr]
  repeat ((with_reducible refine Vc.go ?_ fun _ => ?_); (focus (first | omega | (simp only [InK]; omega) | (simp [InK]; done) | (simp [InK]; omega))); simp only [↓sx0, sxE, encs, sevalprocAttr])
  have hf : (l.take k).map (eP true) ++ [eP true l[k]] = (l.take (k + 1)).map (eP true) := by rw [List.take_succ_eq_append_getElem hkl, List.map_append]; rfl
  refine ⟨k + 1, StLe.auto ?_, by omega, by omega⟩
  simp only [← hf]
  simp only [sx2, encs, sxR, sevalprocAttr] <;> (try simp) <;> (try omega)
 ·simp only [↓sx0, sxE, encs, sevalprocAttr]
  have hke : k = l.length := by omega
  subst hke
  rw [List.take_length]
  have hkp := kpP l
  exact EndW.r [some 0] (by simp) (by simp only [sx4, sxF, encs, kpLL_map, sxR, sevalprocAttr] <;> simp [hkp]) (by simp only [sx4, sxF, encs, kpLL_map, sxR, sevalprocAttr] <;> simp [hkp]) (by simp only [sx4, sxF, encs, kpLL_map, sxR, sevalprocAttr] <;> simp [hkp]) (by simp only [sx4, sxF, encs, kpLL_map, sxR, sevalprocAttr] <;> simp [hkp])
def xP : Pt := ⟨3, [⟨#[120]⟩]⟩
theorem moL_all {a b : List ByteArray} {n : Nat} (he : wdsErr a b = 0) (hm : (a ++ b).any isMk = false) (ha : ¬ (a.length = 0 ∨ b.length = 0)) (hn : n ≤ 59) :
  (((moL n a b (lsE a b) 0).length : Int) = dst a b a.length b.length ∧ AllMk (moL n a b (lsE a b) 0)) ∧ apAll (List.replicate n xP ++ [⟨1, a⟩]) (moL n a b (lsE a b) 0) = (List.replicate n xP ++ [⟨1, b⟩], 0, 0) := by
 obtain ⟨h1, h2⟩ := wds_len he
 have hbad : (a ++ b).any badW = false := by
  unfold wdsErr at he
  rw [if_pos ⟨h1, h2⟩] at he
  cases hb : (a ++ b).any badW with
  | false => rfl
  | true => rw [hb, if_pos rfl] at he; simp at he
 have hgood : ∀ s ∈ a ++ b, GoodW s := fun s hs => by
  rw [List.any_eq_false] at hbad hm
  exact ⟨by simpa [badW] using hbad s hs, by simpa using hm s hs⟩
 have ga : ∀ s ∈ a, GoodW s := fun s hs => hgood s (List.mem_append_left _ hs)
 have gb : ∀ s ∈ b, GoodW s := fun s hs => hgood s (List.mem_append_right _ hs)
 have hx : partErr xP = 0 := by decide
 have hP : (List.replicate n xP).length = n := List.length_replicate
 have okP : ∀ p ∈ List.replicate n xP, partErr p = 0 := fun p hp => by rw [List.eq_of_mem_replicate hp]; exact hx
 have hc := lsE_cost a b
 have hd := chN_le a b a.length b.length
 have e0 : (edF a b (lsE a b) 0 0 0).2 = 0 := by rw [hc]
 have hrun := moL_run (P := List.replicate n xP) (by omega) okP h1 h2 ga gb (lsE a b) 0 0 0 0 (by omega) (by omega) e0 (by omega) (by rw [hc]; simp only; omega)
 have hlen := moL_len (part := (n : Int)) (lsE a b) 0 0 0 e0
 have hall := moL_ok (part := (n : Int)) (by omega) h2 ga gb (lsE a b) 0 0 0 (by omega) e0
 rw [hc] at hlen
 simp only at hlen
 rw [hP, List.take_zero, List.drop_zero, List.nil_append] at hrun
 have hls := lsE_len a b
 have hdb := dst_b a b a.length b.length
 refine ⟨⟨by omega, fun m hm => mk_sz (hall m hm)⟩, ?_⟩
 have hright : (partsErr (List.replicate n xP ++ [⟨1, a⟩])).2 = 0 := by
  refine parts_of (by simp; omega) fun p hp => ?_
  rcases List.mem_append.1 hp with hp | hp
  ·exact okP p hp
  ·rw [List.mem_singleton] at hp
   subst hp
   exact part_of (by decide) (by omega) (by omega) ga
 rw [apAll, if_pos hright, if_pos (lstB (by omega) hall), hrun]
set_option maxHeartbeats 16000000 in
theorem marksOfLaw_s (a b : List ByteArray) (part : Int) (la : a.length ≤ maxLen) (lb : b.length ≤ maxLen) : Ctr Try.prog 14 [.sl true 1 (a.map eS), .sl true 1 (b.map eS), (.v (.int .i64 part))] (fun rr => rr = ⟨(.v (.bool (true))), []⟩) := by
 have encs := And.intro encs (And.intro (show ∀ p, eP true p = [.v (.int .i64 p.kind), .sl true 1 (p.words.map eS)] from fun _ => rfl) prE)
 refine Ctr.of (rs := [.tmp 6]) Tok true Try.func14 rfl rfl rfl rfl (by simp [ofDL]) (fun w0 kp => ?_)
 simp only [↓sx0, sxE, encs, sevalprocAttr]
 refine CallI.fn (awake_s) (by simp only [sx3, encs, sxR, sevalprocAttr] <;> (try simp) <;> (try rfl)) ?_
 simp only [↓sx0, sxE, encs, sevalprocAttr]
 refine CallI.fn (slim_s true a la) (by simp only [sx3, encs, sxR, sevalprocAttr] <;> (try simp) <;> (try rfl)) ?_
 simp only [↓sx0, sxE, encs, sevalprocAttr]
 refine BrW.of (fun ha => ?_) (fun ha => ?_)
 ·obtain ⟨za, na⟩ := slim_all ha
  simp only [↓sx0, sxE, encs, sevalprocAttr]
  repeat ((with_reducible refine BrW.tt ha ?_); simp only [↓sx0, sxE, encs, sevalprocAttr])
  refine CallI.fn (slim_s true b lb) (by simp only [sx3, encs, sxR, sevalprocAttr] <;> (try simp) <;> (try rfl)) ?_
  simp only [↓sx0, sxE, encs, sevalprocAttr]
  refine BrW.of (fun hb => ?_) (fun hb => ?_)
  ·obtain ⟨zb, nb⟩ := slim_all hb
   simp only [↓sx0, sxE, encs, sevalprocAttr]
   repeat ((with_reducible refine BrW.tt hb ?_); simp only [↓sx0, sxE, encs, sevalprocAttr])
   have cM := marksOf_s a b part za zb
   have cC := checkMarksOfR_s true true a b part za zb
   refine CallI.fn (copyTexts_s true a (by omega)) (by simp only [sx3, encs, sxR, sevalprocAttr] <;> (try simp) <;> (try rfl)) ?_
   simp only [↓sx0, sxE, encs, sevalprocAttr]
   refine CallI.fn (copyTexts_s true b (by omega)) (by simp only [sx3, encs, sxR, sevalprocAttr] <;> (try simp) <;> (try rfl)) ?_
   simp only [↓sx0, sxE, encs, sevalprocAttr]
   by_cases hE : mofE a b part = 0
   ·rw [show mofV a b part = (moL part a b (lsE a b) 0, 0) by rw [mofV, if_pos hE]] at cM
    rw [hE] at cC
    have he : wdsErr a b = 0 := Decidable.byContradiction fun h => h (by rw [← mofE_0 h]; exact hE)
    have hm : (a ++ b).any isMk = false := by
     cases hb : (a ++ b).any isMk with
     | false => rfl
     | true => rw [mofE_3 he hb] at hE; omega
    rw [mofE_n he hm] at hE
    have hab : ¬ (a.length = 0 ∨ b.length = 0) := fun h => by rw [if_pos h] at hE; omega
    rw [if_neg hab] at hE
    have hp : 0 ≤ part ∧ part ≤ 59 := Decidable.byContradiction fun h => by rw [if_neg h] at hE; omega
    obtain ⟨n, rfl⟩ : ∃ n : Nat, part = n := ⟨part.toNat, by omega⟩
    obtain ⟨h1, h2⟩ := wds_len he
    obtain ⟨⟨hlen, hsz⟩, hap⟩ := moL_all (n := n) he hm hab (by omega)
    have hdb := dst_b a b a.length b.length
    have cD := least_s true true a b h1 h2
    rw [← hlen] at cD
    generalize moL n a b (lsE a b) 0 = M at cM hlen hsz hap cD
    refine CallI.fn (cM) (by simp only [sx3, encs, sxR, sevalprocAttr] <;> (try simp) <;> (try rfl)) ?_
    simp only [↓sx0, sxE, encs, sevalprocAttr]
    refine CallI.fn (cC) (by simp only [sx3, encs, sxR, sevalprocAttr] <;> (try simp) <;> (try rfl)) ?_
    simp only [↓sx0, sxE, encs, sevalprocAttr]
    repeat ((with_reducible refine BrW.no (by first | omega | simp) ?_); simp only [↓sx0, sxE, encs, sevalprocAttr])
    refine CallI.fn (cD) (by simp only [sx3, encs, sxR, sevalprocAttr] <;> (try simp) <;> (try rfl)) ?_
    simp only [↓sx0, sxE, encs, sevalprocAttr]
    refine BrW.no (by simp) ?_
    simp only [↓sx0, sxE, encs, sevalprocAttr]
    have hxp : ∀ k, (List.replicate k xP).map (eP true) ++ [[.v (.int .i64 3), .sl true 1 [[.v (.string ⟨#[120]⟩)]]]] = (List.replicate (k + 1) xP).map (eP true) := fun k => by rw [List.replicate_succ', List.map_append]; rfl
    refine LoopW.comp [0, 1, 2, 7, 10, 11] (by simp only [sx2, encs, sxR, sevalprocAttr] <;> (try simp) <;> (try omega)) ?_
    simp only [sx2, sxR, sevalprocAttr]
    refine LoopW.up Tok (fun k : Nat => [(10, .row 0), (11, (.v (.int .i64 k)))]) (fun k => []) (fun k => []) (fun k => [.own 93 2 ((List.replicate k xP).map (eP true))]) (fun k => k ≤ n) (fun k => n - k) (0) (by simp only [sx2, encs, sxR, sevalprocAttr] <;> (try simp) <;> (try omega)) ?_ ?_
    ·omega
    rintro k hk
    simp only [↓sx0, sxE, encs, sevalprocAttr]
    refine BrW.dec (fun hlt => ?_) (fun hlt => ?_)
    ·simp only [↓sx0, sxE, encs, sevalprocAttr]
     repeat ((with_reducible refine Vc.go ?_ fun _ => ?_); (focus (first | omega | (simp only [InK]; omega) | (simp [InK]; done) | (simp [InK]; omega))); simp only [↓sx0, sxE, encs, sevalprocAttr])
     refine ⟨k + 1, StLe.auto (by simp only [sx2, encs, sxR, sevalprocAttr] <;> (try simp [← hxp, encs]) <;> (try omega)), ?_, ?_⟩
     ·omega
     ·omega
    ·have hkn : k = n := by omega
     subst hkn
     simp only [↓sx0, sxE, encs, sevalprocAttr]
     refine CallI.ctr (copyOfP_s false true (List.replicate k xP) (by simp; omega) (fun p hp => by rw [List.eq_of_mem_replicate hp]; decide)) (by simp only [sx3, encs, sxR, sevalprocAttr] <;> (try simp) <;> (try rfl)) ?_
     rintro _ rfl
     simp only [↓sx0, sxE, encs, sevalprocAttr]
     repeat ((with_reducible refine Vc.go ?_ fun _ => ?_); (focus (first | omega | (simp only [InK]; omega) | (simp [InK]; done) | (simp [InK]; omega))); simp only [↓sx0, sxE, encs, sevalprocAttr])
     have hA := AppliedAll_s false true true (List.replicate k xP ++ [⟨1, a⟩]) M hsz (by omega)
     rw [hap] at hA
     have hcp := copies_s true false true true (List.replicate k xP ++ [⟨1, b⟩]) (List.replicate k xP ++ [⟨1, b⟩]) (by simp; omega) (fun p hp => by
      rcases List.mem_append.1 hp with hp | hp
      ·rw [List.eq_of_mem_replicate hp]; decide
      ·rw [List.mem_singleton] at hp; subst hp; simp only; omega)
     simp only [List.map_append, List.map_cons, List.map_nil, encs] at hA hcp
     refine CallI.fn (copyTexts_s true a (by omega)) (by simp only [sx3, encs, sxR, sevalprocAttr] <;> (try simp) <;> (try rfl)) ?_
     simp only [↓sx0, sxE, encs, sevalprocAttr]
     repeat ((with_reducible refine Vc.go ?_ fun _ => ?_); (focus (first | omega | (simp only [InK]; omega) | (simp [InK]; done) | (simp [InK]; omega))); simp only [↓sx0, sxE, encs, sevalprocAttr])
     refine CallI.fn (hA) (by simp only [sx3, encs, sxR, sevalprocAttr] <;> (try simp) <;> (try rfl)) ?_
     simp only [↓sx0, sxE, encs, sevalprocAttr]
     refine CallI.fn (hcp) (by simp only [sx3, encs, sxR, sevalprocAttr] <;> (try simp) <;> (try rfl)) ?_
     simp only [↓sx0, sxE, encs, sevalprocAttr]
     refine EndW.fn ?_ ?_ <;> simp only [sx4, encs, kpLL_map, sxR, sevalprocAttr] <;> (try simp) <;> (try omega)
   ·rw [show mofV a b part = ([], mofE a b part) by rw [mofV, if_neg hE]] at cM
    refine CallI.fn (cM) (by simp only [sx3, encs, sxR, sevalprocAttr] <;> (try simp) <;> (try rfl)) ?_
    simp only [↓sx0, sxE, encs, sevalprocAttr]
    refine CallI.fn (cC) (by simp only [sx3, encs, sxR, sevalprocAttr] <;> (try simp) <;> (try rfl)) ?_
    simp only [↓sx0, sxE, encs, sevalprocAttr]
    refine BrW.yes hE ?_
    simp only [↓sx0, sxE, encs, sevalprocAttr]
    refine EndW.fn ?_ ?_ <;> simp only [sx4, encs, kpLL_map, sxR, sevalprocAttr] <;> (try simp) <;> (try omega)
  ·simp only [↓sx0, sxE, encs, sevalprocAttr]
   repeat ((with_reducible refine BrW.ff hb ?_); simp only [↓sx0, sxE, encs, sevalprocAttr])
   refine EndW.fn ?_ ?_ <;> simp only [sx4, encs, kpLL_map, sxR, sevalprocAttr] <;> (try simp) <;> (try omega)
 ·simp only [↓sx0, sxE, encs, sevalprocAttr]
  repeat ((with_reducible refine BrW.ff ha ?_); simp only [↓sx0, sxE, encs, sevalprocAttr])
  refine EndW.fn ?_ ?_ <;> simp only [sx4, encs, kpLL_map, sxR, sevalprocAttr] <;> (try simp) <;> (try omega)
end Go.Proofs.Ytenohgpackcjbaa
