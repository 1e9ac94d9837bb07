/-
 Chapter 8, walks: marks that turn words of a part into others.
-/
import Derived.Test.YtmiibjncomgneaaVP8K
namespace Go.Proofs.Ytmiibjncomgneaa
open Go Go.Vx
set_option linter.unusedSimpArgs false
set_option linter.unusedVariables false
set_option maxRecDepth 20000
theorem marksOf1_s (s : ByteArray) : Ctr Try.prog 35 [(.v (.string (s)))] (fun rr => rr = ⟨(.v (.bool (isMk s))), []⟩) := by
 refine Ctr.of (rs := [.tmp 2]) Tok true Try.func35 rfl rfl rfl rfl (by simp [ofDL]) (fun w0 kp => ?_)
 simp only [↓sx0, sxE, encs, sevalprocAttr]
 by_cases h : s = ⟨#[35]⟩
 ·repeat ((with_reducible refine BrW.yes h ?_); simp only [↓sx0, sxE, encs, sevalprocAttr])
  have : isMk ⟨#[35]⟩ = true := by decide
  subst h
  refine EndW.fn ?_ ?_ <;> simp only [sx4, encs, kpLL_map, sxR, sevalprocAttr] <;> (try simp [this]) <;> (try omega)
 ·repeat ((with_reducible refine BrW.no h ?_); simp only [↓sx0, sxE, encs, sevalprocAttr])
  have : isMk s = decide (s = ⟨#[94]⟩) := by rw [isMk, show decide (s = hash) = false from decide_eq_false h, Bool.false_or]; rfl
  refine EndW.fn ?_ ?_ <;> simp only [sx4, encs, kpLL_map, sxR, sevalprocAttr] <;> (try simp [this, h]) <;> (try omega)
def hasT (s : ByteArray) (l : List ByteArray) : Bool := l.any fun x => decide (x = s)
/-- the error of words that marks are asked for. -/
def mofE (a b : List ByteArray) (part : Int) : Int :=
 if wdsErr a b = 0 then (if (a ++ b).any isMk = true then 3 else if a.length = 0 ∨ b.length = 0 then 10 else if 0 ≤ part ∧ part ≤ 59 then 0 else 2) else wdsErr a b
def mofV (a b : List ByteArray) (part : Int) : List Mk × Int := if mofE a b part = 0 then (moL part a b (lsE a b) 0, 0) else ([], mofE a b part)
structure MO where
 n : Nat
 k : Nat
 out : List Mk
set_option maxHeartbeats 16000000 in
theorem marksOf_s (a b : List ByteArray) (part : Int) (ha : AllSz a) (hb : AllSz b) : Ctr Try.prog 14 [.sl true 1 (a.map eS), .sl true 1 (b.map eS), (.v (.int .i64 part))] (fun rr => rr = ⟨.tup [.sl true 7 ((mofV a b part).1.map eM), (.v (.int .i64 ((mofV a b part).2)))], []⟩) := by
 have encs := And.intro encs (And.intro (show ∀ p, eSL p = [.sl p.1 1 (p.2.map eS)] from fun _ => rfl) (And.intro (show ∀ b1 b2 a b, gV b1 b2 a b = .agg [.sl b1 1 (a.map eS), .sl b2 1 (b.map eS)] from fun _ _ _ _ => rfl) (And.intro (show em = ⟨#[]⟩ from rfl) prE)))
 refine Ctr.of (rs := [.tmp 6, .tmp 7]) Tok true Try.func14 rfl rfl rfl rfl (by simp [ofDL]) (fun w0 kp => ?_)
 simp only [↓sx0, sxE, encs, sevalprocAttr]
 refine CallI.fn (checkWords_s true true a b ha hb) (by simp only [sx3, encs, sxR, sevalprocAttr] <;> (try simp) <;> (try rfl)) ?_
 simp only [↓sx0, sxE, encs, sevalprocAttr]
 refine BrW.dec (fun he => ?_) (fun he => ?_)
 ·have hv : mofV a b part = ([], wdsErr a b) := by rw [mofV, mofE, if_neg he, if_neg he]
  rw [hv]
  simp only [↓sx0, sxE, encs, sevalprocAttr]
  refine EndW.fn ?_ ?_ <;> simp only [sx4, encs, kpLL_map, sxR, sevalprocAttr] <;> (try simp) <;> (try omega)
 ·have he := Decidable.not_not.1 he
  obtain ⟨h1, h2⟩ := wds_len he
  have hc : cat [(true, a), (true, b)] = a ++ b := by simp [cat]
  simp only [↓sx0, sxE, encs, sevalprocAttr]
  refine CallI.ctr (concat_s false [(true, a), (true, b)] (by simp) (by rw [hc, List.length_append]; omega)) (by simp only [sx3, encs, sxR, sevalprocAttr] <;> (try simp) <;> (try rfl)) ?_
  rintro _ rfl
  rw [hc]
  simp only [↓sx0, sxE, encs, sevalprocAttr]
  refine CallI.fn (containsS_s false 35 isMk (a ++ b) (by rw [List.length_append]; omega) (fun x _ => marksOf1_s x)) (by simp only [sx3, encs, sxR, sevalprocAttr] <;> (try simp) <;> (try rfl)) ?_
  simp only [↓sx0, sxE, encs, sevalprocAttr]
  refine BrW.of (fun hm => ?_) (fun hm => ?_)
  ·have hv : mofV a b part = ([], 3) := by rw [mofV, mofE, if_pos he, if_pos hm]; rfl
   rw [hv]
   simp only [↓sx0, sxE, encs, sevalprocAttr]
   refine EndW.fn ?_ ?_ <;> simp only [sx4, encs, kpLL_map, sxR, sevalprocAttr] <;> (try simp) <;> (try omega)
  ·have hm' : ¬ (a ++ b).any isMk = true := by rw [hm]; simp
   simp only [↓sx0, sxE, encs, sevalprocAttr]
   by_cases ha0 : a.length = 0
   ·have hv : mofV a b part = ([], 10) := by rw [mofV, show mofE a b part = 10 by rw [mofE, if_pos he, if_neg hm', if_pos (Or.inl ha0)]]; rfl
    rw [hv]
    repeat ((with_reducible refine BrW.yes (by omega) ?_); simp only [↓sx0, sxE, encs, sevalprocAttr])
    refine EndW.fn ?_ ?_ <;> simp only [sx4, encs, kpLL_map, sxR, sevalprocAttr] <;> (try simp) <;> (try omega)
   ·repeat ((with_reducible refine BrW.no (by omega) ?_); simp only [↓sx0, sxE, encs, sevalprocAttr])
    repeat ((with_reducible refine Vc.go ?_ fun _ => ?_); (focus (first | omega | (simp only [InK]; omega) | (simp [InK]; done) | (simp [InK]; omega))); simp only [↓sx0, sxE, encs, sevalprocAttr])
    by_cases hb0 : b.length = 0
    ·have hv : mofV a b part = ([], 10) := by rw [mofV, show mofE a b part = 10 by rw [mofE, if_pos he, if_neg hm', if_pos (Or.inr hb0)]]; rfl
     rw [hv]
     repeat ((with_reducible refine BrW.yes (by omega) ?_); simp only [↓sx0, sxE, encs, sevalprocAttr])
     refine EndW.fn ?_ ?_ <;> simp only [sx4, encs, kpLL_map, sxR, sevalprocAttr] <;> (try simp) <;> (try omega)
    ·repeat ((with_reducible refine BrW.no (by omega) ?_); simp only [↓sx0, sxE, encs, sevalprocAttr])
     refine CallI.fn (within_s part 0 59) (by simp only [sx3, encs, sxR, sevalprocAttr] <;> (try simp) <;> (try rfl)) ?_
     simp only [↓sx0, sxE, encs, sevalprocAttr]
     have hab : ¬ (a.length = 0 ∨ b.length = 0) := by omega
     by_cases hp : 0 ≤ part ∧ part ≤ 59
     ·have hv : mofV a b part = (moL part a b (lsE a b) 0, 0) := by rw [mofV, show mofE a b part = 0 by rw [mofE, if_pos he, if_neg hm', if_neg hab, if_pos hp]]; rfl
      rw [hv]
      refine BrW.yes hp ?_
      simp only [↓sx0, sxE, encs, sevalprocAttr]
      have hes := edits_s a b h1 h2
      rw [show (edB a b (a.length + b.length) a.length b.length).reverse = lsE a b from rfl] at hes
      have hrun := lsE_cost a b
      have hll := lsE_len a b
      generalize lsE a b = L at hes hrun hll ⊢
      refine DrawW.plan Tok mixed (.q 0 <| .q 1 <| .q 5 <| .e 2 [0] <| .e 3 [] <| .q 4 <| .done) (by kernel_rfl) (by kernel_rfl) ?_
      simp only [↓sx0, sxE, encs, sevalprocAttr]
      refine CallI.fn (labels_s a b h1 h2) (by simp only [sx3, encs, sxR, sevalprocAttr] <;> (try simp) <;> (try rfl)) ?_
      simp only [↓sx0, sxE, encs, sevalprocAttr]
      refine CallI.fn (hes) (by simp only [sx3, encs, sxR, sevalprocAttr] <;> (try simp) <;> (try rfl)) ?_
      simp only [↓sx0, sxE, encs, sevalprocAttr]
      refine LoopW.comp [0, 1, 2, 10, 11, 46, 47, 48] (by simp only [sx2, encs, sxR, sevalprocAttr] <;> (try simp) <;> (try omega)) ?_
      simp only [sx2, sxR, sevalprocAttr]
      refine LoopW.up Tok (fun s : MO => [(10, .row 0), (11, (.v (.int .i64 ((s.k : Int))))), (48, (.v (.int .i64 s.n)))]) (fun s => []) (fun s => []) (fun s => [.own 32 7 (s.out.map eM)]) (fun s => (s.n ≤ L.length ∧ s.k ≤ b.length ∧ s.out.length ≤ s.n) ∧ (∃ i c, i ≤ a.length ∧ (edF a b (L.drop s.n) i s.k c).2 = 0) ∧ s.out ++ moL part a b (L.drop s.n) s.k = moL part a b L 0) (fun s => L.length - s.n) (⟨0, 0, []⟩) (by simp only [sx2, encs, sxR, sevalprocAttr] <;> (try simp) <;> (try omega)) ?_ ?_
      ·exact ⟨⟨by simp, by simp, by simp⟩, ⟨0, 0, by omega, by rw [List.drop_zero, hrun]⟩, rfl⟩
      rintro ⟨n, k, out⟩ ⟨⟨g1, g2, g3⟩, ⟨i, c, g4, g5⟩, hM⟩
      simp only at g1 g2 g3 g4 g5 hM
      simp only [↓sx0, sxE, encs, sevalprocAttr]
      refine BrW.dec (fun hlt => ?_) (fun hlt => ?_)
      ·simp only [↓sx0, sxE, encs, sevalprocAttr]
       have hnl : n < L.length := by omega
       have hd : L.drop n = L[n] :: L.drop (n + 1) := List.drop_eq_getElem_cons hnl
       rw [hd] at g5 hM
       refine IxW.nat hnl ?_
       simp only [↓sx0, sxE, encs, sevalprocAttr]
       obtain ⟨e1, hc⟩ := edF_step g5
       rw [e1] at g5
       rw [moL] at hM
       generalize L[n] = x at hc g5 hM ⊢
       obtain ⟨fr, to⟩ := x
       simp only at hc g5 hM ⊢
       have gi : ∀ h : i < a.length, a.getD ((i : Int)).toNat em = a[i] := fun h => by simp [List.getD_eq_getElem?_getD, List.getElem?_eq_getElem h]
       have gk : ∀ h : k < b.length, b.getD ((k : Int)).toNat em = b[k] := fun h => by simp [List.getD_eq_getElem?_getD, List.getElem?_eq_getElem h]
       rcases hc with ⟨rfl, rfl, h3⟩ | ⟨rfl, rfl, h3⟩ | ⟨⟨rfl, h3⟩, rfl, h4⟩
       ·have hmm : moM part a b ⟨(i : Int), -1⟩ k = some ⟨1, part, k, a[i], em, 0, 0⟩ := by rw [moM]; simp only; rw [if_pos trivial, gi h3]
        rw [hmm, nxI_m, Option.toList_some, List.singleton_append] at hM
        rw [nxI_s _ _ rfl, nxI_m] at g5
        simp only [↓sx0, sxE, encs, sevalprocAttr]
        refine DrawW.plan Tok mixed (.q 0 <| .q 1 <| .q 2 <| .q 3 <| .q 4 <| .q 5 <| .e 6 [2, 4] <| .q 7 <| .e 8 [] <| .done) (by kernel_rfl) (by kernel_rfl) ?_
        simp only [↓sx0, sxE, encs, sevalprocAttr]
        refine IxW.nat h3 ?_
        simp only [↓sx0, sxE, encs, sevalprocAttr]
        repeat ((with_reducible refine Vc.go ?_ fun _ => ?_); (focus (first | omega | (simp only [InK]; omega) | (simp [InK]; done) | (simp [InK]; omega))); simp only [↓sx0, sxE, encs, sevalprocAttr])
        refine BrW.no (by simp) ?_
        simp only [↓sx0, sxE, encs, sevalprocAttr]
        repeat ((with_reducible refine Vc.go ?_ fun _ => ?_); (focus (first | omega | (simp only [InK]; omega) | (simp [InK]; done) | (simp [InK]; omega))); simp only [↓sx0, sxE, encs, sevalprocAttr])
        refine ⟨⟨n + 1, k, out ++ [⟨1, part, k, a[i], em, 0, 0⟩]⟩, StLe.auto (by simp only [sx2, encs, sxR, sevalprocAttr] <;> (try simp [eM, encs]) <;> (try omega)), ?_, ?_⟩
        ·exact ⟨⟨by simp only; omega, by simp only; omega, by simp; omega⟩, ⟨i + 1, _, by omega, g5⟩, by rw [← hM]; simp⟩
        ·simp only; omega
       ·have hmm : moM part a b ⟨-1, (k : Int)⟩ k = some ⟨2, part, k, em, b[k], 0, 0⟩ := by rw [moM]; simp only; rw [if_neg (by omega), if_pos trivial, gk h3]
        rw [hmm, nxI_s _ _ rfl, Option.toList_some, List.singleton_append] at hM
        rw [nxI_s _ _ rfl, nxI_m] at g5
        refine BrW.no (by omega) ?_
        simp only [↓sx0, sxE, encs, sevalprocAttr]
        refine DrawW.plan Tok mixed (.q 0 <| .q 1 <| .q 2 <| .q 3 <| .q 4 <| .q 5 <| .e 6 [2, 4] <| .q 7 <| .e 8 [] <| .done) (by kernel_rfl) (by kernel_rfl) ?_
        simp only [↓sx0, sxE, encs, sevalprocAttr]
        refine IxW.nat h3 ?_
        simp only [↓sx0, sxE, encs, sevalprocAttr]
        repeat ((with_reducible refine Vc.go ?_ fun _ => ?_); (focus (first | omega | (simp only [InK]; omega) | (simp [InK]; done) | (simp [InK]; omega))); simp only [↓sx0, sxE, encs, sevalprocAttr])
        repeat ((with_reducible refine BrW.yes (by omega) ?_); simp only [↓sx0, sxE, encs, sevalprocAttr])
        repeat ((with_reducible refine Vc.go ?_ fun _ => ?_); (focus (first | omega | (simp only [InK]; omega) | (simp [InK]; done) | (simp [InK]; omega))); simp only [↓sx0, sxE, encs, sevalprocAttr])
        refine ⟨⟨n + 1, k + 1, out ++ [⟨2, part, k, em, b[k], 0, 0⟩]⟩, StLe.auto (by simp only [sx2, encs, sxR, sevalprocAttr] <;> (try simp [eM, encs]) <;> (try omega)), ?_, ?_⟩
        ·exact ⟨⟨by simp only; omega, by simp only; omega, by simp; omega⟩, ⟨i, _, by omega, g5⟩, by rw [← hM]; simp⟩
        ·simp only; omega
       ·rw [nxI_s _ _ rfl] at hM
        rw [nxI_s _ _ rfl, nxI_s _ _ rfl] at g5
        refine BrW.no (by omega) ?_
        simp only [↓sx0, sxE, encs, sevalprocAttr]
        refine DrawW.plan Tok mixed (.q 0 <| .q 1 <| .q 2 <| .q 3 <| .q 4 <| .q 5 <| .q 6 <| .q 7 <| .q 8 <| .q 9 <| .q 10 <| .q 11 <| .done) (by kernel_rfl) (by kernel_rfl) ?_
        simp only [↓sx0, sxE, encs, sevalprocAttr]
        refine IxW.nat h3 ?_
        simp only [↓sx0, sxE, encs, sevalprocAttr]
        refine IxW.nat h4 ?_
        simp only [↓sx0, sxE, encs, sevalprocAttr]
        refine BrW.dec (fun hab2 => ?_) (fun hab2 => ?_)
        ·have hmm : moM part a b ⟨(i : Int), (k : Int)⟩ k = some ⟨3, part, k, a[i], b[k], 0, 0⟩ := by rw [moM]; simp only; rw [if_neg (by omega), if_neg (by omega), gi h3, gk h4, if_pos hab2]
         rw [hmm, Option.toList_some, List.singleton_append] at hM
         simp only [↓sx0, sxE, encs, sevalprocAttr]
         refine DrawW.plan Tok mixed (.q 0 <| .q 1 <| .q 2 <| .q 3 <| .q 4 <| .q 5 <| .q 6 <| .q 7 <| .q 8 <| .q 9 <| .q 10 <| .e 11 [2, 4, 7, 9] <| .q 12 <| .e 13 [7, 9] <| .q 14 <| .e 15 [] <| .done) (by kernel_rfl) (by kernel_rfl) ?_
         simp only [↓sx0, sxE, encs, sevalprocAttr]
         refine IxW.nat h3 ?_
         simp only [↓sx0, sxE, encs, sevalprocAttr]
         refine IxW.nat h4 ?_
         simp only [↓sx0, sxE, encs, sevalprocAttr]
         repeat ((with_reducible refine Vc.go ?_ fun _ => ?_); (focus (first | omega | (simp only [InK]; omega) | (simp [InK]; done) | (simp [InK]; omega))); simp only [↓sx0, sxE, encs, sevalprocAttr])
         repeat ((with_reducible refine BrW.yes (by omega) ?_); simp only [↓sx0, sxE, encs, sevalprocAttr])
         repeat ((with_reducible refine Vc.go ?_ fun _ => ?_); (focus (first | omega | (simp only [InK]; omega) | (simp [InK]; done) | (simp [InK]; omega))); simp only [↓sx0, sxE, encs, sevalprocAttr])
         refine ⟨⟨n + 1, k + 1, out ++ [⟨3, part, k, a[i], b[k], 0, 0⟩]⟩, StLe.auto (by simp only [sx2, encs, sxR, sevalprocAttr] <;> (try simp [eM, encs]) <;> (try omega)), ?_, ?_⟩
         ·exact ⟨⟨by simp only; omega, by simp only; omega, by simp; omega⟩, ⟨i + 1, _, by omega, g5⟩, by rw [← hM]; simp⟩
         ·simp only; omega
        ·have hmm : moM part a b ⟨(i : Int), (k : Int)⟩ k = none := by rw [moM]; simp only; rw [if_neg (by omega), if_neg (by omega), gi h3, gk h4, if_neg hab2]
         rw [hmm, Option.toList_none, List.nil_append] at hM
         simp only [↓sx0, sxE, encs, sevalprocAttr]
         refine BrW.no (by simp) ?_
         simp only [↓sx0, sxE, encs, sevalprocAttr]
         repeat ((with_reducible refine BrW.yes (by omega) ?_); simp only [↓sx0, sxE, encs, sevalprocAttr])
         repeat ((with_reducible refine Vc.go ?_ fun _ => ?_); (focus (first | omega | (simp only [InK]; omega) | (simp [InK]; done) | (simp [InK]; omega))); simp only [↓sx0, sxE, encs, sevalprocAttr])
         refine ⟨⟨n + 1, k + 1, out⟩, StLe.auto (by simp only [sx2, encs, sxR, sevalprocAttr] <;> (try simp [eM, encs]) <;> (try omega)), ?_, ?_⟩
         ·exact ⟨⟨by simp only; omega, by simp only; omega, by simp only; omega⟩, ⟨i + 1, _, by omega, g5⟩, hM⟩
         ·simp only; omega
      ·have hne : n = L.length := by omega
       subst hne
       rw [List.drop_length, moL, List.append_nil] at hM
       rw [← hM]
       simp only [↓sx0, sxE, encs, sevalprocAttr]
       refine EndW.fn ?_ ?_ <;> simp only [sx4, encs, kpLL_map, sxR, sevalprocAttr] <;> (try simp) <;> (try omega)
     ·have hv : mofV a b part = ([], 2) := by rw [mofV, show mofE a b part = 2 by rw [mofE, if_pos he, if_neg hm', if_neg hab, if_neg hp]]; rfl
      rw [hv]
      refine BrW.no hp ?_
      simp only [↓sx0, sxE, encs, sevalprocAttr]
      refine EndW.fn ?_ ?_ <;> simp only [sx4, encs, kpLL_map, sxR, sevalprocAttr] <;> (try simp) <;> (try omega)
end Go.Proofs.Ytmiibjncomgneaa

