/-
  Chapter 8, walks: inverses of lists.
-/
import Derived.Test.YtenohgpackcjbaaVW26
namespace Go.Proofs.Ytenohgpackcjbaa
open Go Go.Vx
set_option linter.unusedSimpArgs false
set_option linter.unusedVariables false
set_option maxRecDepth 20000
def bkC (l : List Mk) : List SV := [.pt true [.sl true 7 (l.map eM)]]
theorem backward_s (l : List Mk) : Ctr Try.prog 79 [.sl true 7 (l.map eM)] (fun rr => rr = ⟨.clo 114 (bkC l), []⟩) := by
  have encs := And.intro encs (show ∀ l, bkC l = [.pt true [.sl true 7 (l.map eM)]] from fun _ => rfl)
  refine Ctr.ofB (rs := [.tmp 2]) Tok Try.func79 rfl rfl rfl rfl (by simp [ofDL]) (fun w0 kp => ?_)
  simp only [↓sx0, sx1, encs, tys, sxR, sevalprocAttr]
  simp only [endY, boxV, boxL, bxPs, bxPs.bx1, bxD, assB, ptB, bxV, bxL, toDL, toD, consO, vD, oneV, dedN, addN, memN, sxL, sx2, encs, sxR, sevalprocAttr]
  exact EndW.fn (by simp only [sx4, encs, kpLL_map, sxR, sevalprocAttr] <;> (try simp) <;> (try omega)) (by simp only [sx4, encs, kpLL_map, sxR, sevalprocAttr] <;> (try simp) <;> (try omega))
/-- what is yielded. -/
def bkY (l : List Mk) (k : Nat) : List SV := [(.v (.int .i64 ((l.length : Int) - 1 - k))), mV (l.getD (l.length - 1 - k) mk0)]
def bkL (l : List Mk) (k : Nat) : List (List SV) := (List.range k).map (bkY l)
theorem bkL_succ (l : List Mk) (k : Nat) : bkL l (k + 1) = bkL l k ++ [bkY l k] := by simp [bkL, List.range_succ]
theorem bkL_le {l : List Mk} {j k : Nat} (h : j ≤ k) : bkL l j <+: bkL l k := by
  obtain ⟨d, rfl⟩ := Nat.le.dest h
  exact ⟨(List.map (j + ·) (List.range d)).map (bkY l), by simp [bkL, List.range_add]⟩
set_option maxHeartbeats 4000000 in
theorem backIt_s (l : List Mk) (hl : l.length ≤ 1000000) : ItCtr Try.prog 114 (bkC l) (bkL l l.length) := by
  have encs := And.intro encs (show ∀ l, bkC l = [.pt true [.sl true 7 (l.map eM)]] from fun _ => rfl)
  refine ItCtr.of Tok Try.func114 rfl rfl rfl rfl (by simp [ofDL, encs]) (fun w0 kp yd hok => ?_)
  simp only [↓sx0, sx1, encs, tys, sxR, sevalprocAttr]
  repeat ((with_reducible refine Vc.go ?_ fun _ => ?_); (focus (first | omega | (simp only [InK]; omega) | (simp [InK]; done) | (simp [InK]; omega))); simp only [↓sx0, sx1, encs, tys, sxR, sevalprocAttr])
  refine LoopW.comp [0, 1, 3] (by simp only [sx2, encs, sxR, sevalprocAttr] <;> (try simp) <;> (try omega)) ?_
  simp only [sx2, sxR, sevalprocAttr]
  refine LoopW.upG Tok (fun k : Nat => [(3, (.v (.int .i64 ((l.length : Int) - 1 - k))))]) (fun k => []) (fun k => []) (fun k => []) (fun k => bkL l k) (fun k => k ≤ l.length) (fun k => l.length - k) (0) (by simp only [sx2, encs, sxR, sevalprocAttr] <;> (try simp [bkL, encs]) <;> (try omega)) ?_ ?_
  · omega
  rintro k hk
  simp only [↓sx0, sx1, encs, tys, sxR, sevalprocAttr]
  refine BrW.dec (fun hlt => ?_) (fun hlt => ?_)
  · simp only [↓sx0, sx1, encs, tys, sxR, sevalprocAttr]
    have hkl : k < l.length := by omega
    have hix : l.length - 1 - k < l.length := by omega
    have hgd : l.getD (l.length - 1 - k) mk0 = l[l.length - 1 - k] := by simp [List.getD_eq_getElem?_getD, hix]
    refine ⟨by omega, _, (by rw [show ((l.length : Int) - 1 - k).toNat = l.length - 1 - k by omega, List.getElem?_map, List.getElem?_eq_getElem hix]; rfl), ?_⟩
    have hb : bkY l k = [(.v (.int .i64 ((l.length : Int) - 1 - k))), mV l[l.length - 1 - k]] := by rw [bkY, hgd]
    have hm : bkL l k ++ [[(.v (.int .i64 ((l.length : Int) - 1 - k))), mV l[l.length - 1 - k]]] <+: bkL l l.length := by rw [← hb, ← bkL_succ]; exact bkL_le hkl
    have hs := bkL_succ l k
    rw [hb] at hs
    generalize l[l.length - 1 - k] = x at hm hs ⊢
    simp only [↓sx0, sx1, encs, tys, sxR, sevalprocAttr]
    refine YldI.of (ys := bkL l k) hok rfl rfl (by simp only [sx2, sxA, encs, sxR, sevalprocAttr] <;> rfl) (by simp only [sx2, sxA, encs, sxR, sevalprocAttr] <;> rfl) rfl rfl rfl (hm) ?_ ?_
    · simp only [↓sx0, sx1, encs, tys, sxR, sevalprocAttr]
      repeat ((with_reducible refine Vc.go ?_ fun _ => ?_); (focus (first | omega | (simp only [InK]; omega) | (simp [InK]; done) | (simp [InK]; omega))); simp only [↓sx0, sx1, encs, tys, sxR, sevalprocAttr])
      refine ⟨k + 1, StLe.auto (by simp only [sx2, encs, sxR, sevalprocAttr] <;> (try simp [hs, encs]) <;> (try omega)), ?_, ?_⟩
      · omega
      · omega
    · simp only [↓sx0, sx1, encs, tys, sxR, sevalprocAttr]
      intro h
      cases h
  · simp only [↓sx0, sx1, encs, tys, sxR, sevalprocAttr]
    have hke : k = l.length := by omega
    subst hke
    intro _
    rfl
def invR (l : List Mk) (k : Nat) : List Mk := (List.range k).map fun i => invM (l.getD (l.length - 1 - i) mk0)
theorem invR_succ (l : List Mk) (k : Nat) : invR l (k + 1) = invR l k ++ [invM (l.getD (l.length - 1 - k) mk0)] := by simp [invR, List.range_succ]
theorem invR_all (l : List Mk) : invR l l.length = (l.map invM).reverse := by
  apply List.ext_getElem
  · simp [invR]
  · intro i h1 h2
    have hi : i < l.length := by simpa [invR] using h1
    simp [invR, List.getElem_reverse, List.getD_eq_getElem?_getD, List.getElem?_eq_getElem (show l.length - 1 - i < l.length by omega)]
def mkIs (l : List Mk) : List Mk × Int := if lstErr l = 0 then ((l.map invM).reverse, 0) else ([], lstErr l)
set_option maxHeartbeats 4000000 in
theorem InverseAll_s (l : List Mk) (hz : AllMk l) (hl : l.length ≤ 1000000) : Ctr Try.prog 41 [.sl true 7 (l.map eM)] (fun rr => rr = ⟨.tup [.sl true 7 ((mkIs l).1.map eM), (.v (.int .i64 ((mkIs l).2)))], []⟩) := by
  have encs := And.intro encs (And.intro (show ∀ p, eML p = [.sl p.1 7 (p.2.map eM)] from fun _ => rfl) (And.intro (show invR l 0 = [] from rfl) (show ∀ l, bkC l = [.pt true [.sl true 7 (l.map eM)]] from fun _ => rfl)))
  have hL : lstsErr [(true, l)] = lstErr l := by simp only [lstsErr]; split <;> simp_all
  have hC := checkMarks_s false [(true, l)] (by simpa using ⟨hz, by omega⟩) (by simp)
  rw [hL] at hC
  refine Ctr.of (rs := [.tmp 2, .tmp 3]) Tok true Try.func41 rfl rfl rfl rfl (by simp [ofDL]) (fun w0 kp => ?_)
  simp only [↓sx0, sx1, encs, tys, sxR, sevalprocAttr]
  refine CallI.fn (hC) (by simp only [sx3, encs, sxR, sevalprocAttr] <;> (try simp) <;> (try rfl)) ?_
  simp only [↓sx0, sx1, encs, tys, sxR, sevalprocAttr]
  refine BrW.dec (fun he => ?_) (fun he => ?_)
  · rw [show mkIs l = ([], lstErr l) by rw [mkIs, if_neg he]]
    simp only [↓sx0, sx1, encs, tys, sxR, sevalprocAttr]
    exact EndW.fn (by simp only [sx4, encs, kpLL_map, sxR, sevalprocAttr] <;> (try simp) <;> (try omega)) (by simp only [sx4, encs, kpLL_map, sxR, sevalprocAttr] <;> (try simp) <;> (try omega))
  · rw [show mkIs l = (invR l l.length, 0) by rw [mkIs, if_pos (Decidable.not_not.1 he), invR_all]]
    simp only [↓sx0, sx1, encs, tys, sxR, sevalprocAttr]
    refine CallI.fn (backward_s l) (by simp only [sx3, encs, sxR, sevalprocAttr] <;> (try simp) <;> (try rfl)) ?_
    simp only [↓sx0, sx1, encs, tys, sxR, sevalprocAttr]
    have hit := backIt_s l hl
    refine RangeW.it Tok (fun _ => rfl) (fun hro => by first | rfl | exact (by rw [hro] at *; contradiction)) (hit) [(5, .box 0 0), (15, .clo 114 (bkC l))] (fun ys => [some ⟨45, [.row 0]⟩]) (fun ys => [.own 24 7 ((invR l ys.length).map eM)]) (fun _ => True) trivial (by simp only [sx2, encs, sxR, sevalprocAttr] <;> (try simp) <;> (try omega)) rfl rfl (by simp [bkL, bkY]) ?_ (fun hJall => ?_)
    · rintro pre d hpre - ρ σ μ ho' hy hs
      obtain ⟨q, hq⟩ := hpre
      have hk : pre.length < l.length := by
        have := congrArg List.length hq
        simp [bkL] at this; omega
      have hd : d = bkY l pre.length := by
        have : (bkL l l.length)[pre.length]? = some d := by rw [← hq]; simp
        simpa [bkL, List.getElem?_map, List.getElem?_range, hk, eq_comm] using this
      subst hd
      obtain ⟨yd', ro, mks, fr, lp, sz⟩ := ho'
      have hsu := invR_succ l pre.length
      have hlen : (pre ++ [bkY l pre.length]).length = pre.length + 1 := by simp
      have hib : (invR l pre.length).length ≤ 1000000 := by simp [invR]; omega
      rw [hlen, hsu]
      have hb : bkY l pre.length = [(.v (.int .i64 ((l.length : Int) - 1 - pre.length))), mV (l.getD (l.length - 1 - pre.length) mk0)] := rfl
      rw [hb]
      generalize l.getD (l.length - 1 - pre.length) mk0 = x
      simp only [↓sx0, sx1, encs, tys, sxR, sevalprocAttr]
      intro fr'
      refine DrawW.plan Tok mixed (.q 0 <| .q 1 <| .e 2 [0] <| .e 3 [0] <| .e 4 [] <| .e 5 [] <| .done) (by kernel_rfl) (by kernel_rfl) ?_
      simp only [↓sx0, sx1, encs, tys, sxR, sevalprocAttr]
      refine CallI.fn (inverse_s x) (by simp only [sx3, encs, sxR, sevalprocAttr] <;> (try simp) <;> (try rfl)) ?_
      simp only [↓sx0, sx1, encs, tys, sxR, sevalprocAttr]
      repeat ((with_reducible refine Vc.go ?_ fun _ => ?_); (focus (first | omega | (simp only [InK]; omega) | (simp [InK]; done) | (simp [InK]; omega))); simp only [↓sx0, sx1, encs, tys, sxR, sevalprocAttr])
      simp only [sx2, encs, sxR, sevalprocAttr] <;> (try simp) <;> (try omega)
      rfl
    · rw [show (bkL l l.length).length = l.length by simp [bkL]]
      simp only [↓sx0, sx1, encs, tys, sxR, sevalprocAttr]
      exact EndW.fn (by simp only [sx4, encs, kpLL_map, sxR, sevalprocAttr] <;> (try simp) <;> (try omega)) (by simp only [sx4, encs, kpLL_map, sxR, sevalprocAttr] <;> (try simp) <;> (try omega))
theorem InverseAllR_s (b : Bool) (l : List Mk) (hl : l.length ≤ 1000000) : Ctr Try.prog 42 [.sl b 7 (l.map eM)] (fun rr => rr = ⟨.sl true 7 ((l.map invM).reverse.map eM), []⟩) := by
  rw [← invR_all]
  refine Ctr.of (rs := [.tmp 2]) Tok true Try.func42 rfl rfl rfl rfl (by simp [ofDL]) (fun w0 kp => ?_)
  simp only [↓sx0, sx1, encs, tys, sxR, sevalprocAttr]
  repeat ((with_reducible refine Vc.go ?_ fun _ => ?_); (focus (first | omega | (simp only [InK]; omega) | (simp [InK]; done) | (simp [InK]; omega))); simp only [↓sx0, sx1, encs, tys, sxR, sevalprocAttr])
  refine LoopW.comp [0, 3, 4] (by simp only [sx2, encs, sxR, sevalprocAttr] <;> (try simp) <;> (try omega)) ?_
  simp only [sx2, sxR, sevalprocAttr]
  refine LoopW.up Tok (fun k : Nat => [(3, .row 0), (4, (.v (.int .i64 ((l.length : Int) - 1 - k))))]) (fun k => []) (fun k => []) (fun k => [.own 24 7 ((invR l k).map eM)]) (fun k => k ≤ l.length) (fun k => l.length - k) (0) (by simp only [sx2, encs, sxR, sevalprocAttr] <;> (try simp [invR, encs]) <;> (try omega)) ?_ ?_
  · omega
  rintro k hk
  have hib : (invR l k).length ≤ 1000000 := by simp [invR]; omega
  simp only [↓sx0, sx1, encs, tys, sxR, sevalprocAttr]
  refine BrW.dec (fun hlt => ?_) (fun hlt => ?_)
  · simp only [↓sx0, sx1, encs, tys, sxR, sevalprocAttr]
    have hkl : k < l.length := by omega
    have hix : l.length - 1 - k < l.length := by omega
    have hgd : l.getD (l.length - 1 - k) mk0 = l[l.length - 1 - k] := by simp [List.getD_eq_getElem?_getD, hix]
    have hsu := invR_succ l k
    rw [hgd] at hsu
    refine ⟨by omega, _, (by rw [show ((l.length : Int) - 1 - k).toNat = l.length - 1 - k by omega, List.getElem?_map, List.getElem?_eq_getElem hix]; rfl), ?_⟩
    generalize l[l.length - 1 - k] = x at hsu ⊢
    simp only [↓sx0, sx1, encs, tys, sxR, sevalprocAttr]
    refine CallI.fn (inverseR_s x) (by simp only [sx3, encs, sxR, sevalprocAttr] <;> (try simp) <;> (try rfl)) ?_
    simp only [↓sx0, sx1, encs, tys, sxR, sevalprocAttr]
    repeat ((with_reducible refine Vc.go ?_ fun _ => ?_); (focus (first | omega | (simp only [InK]; omega) | (simp [InK]; done) | (simp [InK]; omega))); simp only [↓sx0, sx1, encs, tys, sxR, sevalprocAttr])
    refine ⟨k + 1, StLe.auto (by simp only [sx2, encs, sxR, sevalprocAttr] <;> (try simp [hsu, eM, encs]) <;> (try omega)), ?_, ?_⟩
    · omega
    · omega
  · simp only [↓sx0, sx1, encs, tys, sxR, sevalprocAttr]
    have hke : k = l.length := by omega
    subst hke
    exact EndW.fn (by simp only [sx4, encs, kpLL_map, sxR, sevalprocAttr] <;> (try simp) <;> (try omega)) (by simp only [sx4, encs, kpLL_map, sxR, sevalprocAttr] <;> (try simp) <;> (try omega))
end Go.Proofs.Ytenohgpackcjbaa
