/-
 Chapter 8, walks: inverses of lists.
-/
import Derived.Test.YtgcmppghjfidfaaGreatDoorVGD
import Derived.Test.YtgcmppghjfidfaaGreatDoorVP8T
import Derived.Test.YtgcmppghjfidfaaGreatDoorVGE
import Derived.Test.YtgcmppghjfidfaaGreatDoorVGB
import Derived.Test.YtgcmppghjfidfaaGreatDoorVGA
import Derived.Test.YtgcmppghjfidfaaGreatDoorVGC
set_option linter.unusedSimpArgs false
set_option linter.unusedVariables false
namespace Go.Proofs.YtgcmppghjfidfaaGreatDoor
open Go Go.Vx
set_option maxRecDepth 20000
def bkC (l : List Mk) : List SV := [.pt true [.sl true 7 (l.map eM)]]
theorem backward_s (l : List Mk) : Ctr Tryz.prog 52 [.sl true 7 (l.map eM)] (fun rr => rr = ⟨.clo 83 (bkC l), []⟩) := by
 have encs := And.intro encs (show ∀ l, bkC l = [.pt true [.sl true 7 (l.map eM)]] from fun _ => rfl)
 refine Ctr.ofB (rs := [.tmp 2]) Tok Tryz.func52 rfl rfl rfl rfl (by simp [ofDL]) (fun w0 kp => ?_)
 simp only [↓sx0, sxE, encs, sevalprocAttr]
 simp only [endY, boxV, boxL, bxPs, bxPs.bx1, bxD, assB, ptB, bxV, bxL, toDL, toD, consO, vD, oneV, dedN, addN, memN, sxL, sx2, encs, sxR, sevalprocAttr]
 exact EndW.fn (by simp only [sx4, encs, kpLL_map, sxR, sevalprocAttr] <;> (try simp) <;> (try omega)) (by simp only [sx4, encs, kpLL_map, sxR, sevalprocAttr] <;> (try simp) <;> (try omega))
/-- what is yielded. -/
def bkY (l : List Mk) (k : Nat) : List SV := [(.v (.int .i64 ((l.length : Int) - 1 - k))), mV (l.getD (l.length - 1 - k) mk0)]
def bkL (l : List Mk) (k : Nat) : List (List SV) := (List.range k).map (bkY l)
theorem bkL_succ (l : List Mk) (k : Nat) : bkL l (k + 1) = bkL l k ++ [bkY l k] := by simp [bkL, List.range_succ]
theorem bkL_le {l : List Mk} {j k : Nat} (h : j ≤ k) : bkL l j <+: bkL l k := by
 obtain ⟨d, rfl⟩ := Nat.le.dest h
 exact ⟨(List.map (j + ·) (List.range d)).map (bkY l), by simp [bkL, List.range_add]⟩
set_option maxHeartbeats 4000000 in
theorem backIt_s (l : List Mk) (hl : l.length ≤ 1000000) : ItCtr Tryz.prog 83 (bkC l) (bkL l l.length) := by
 have encs := And.intro encs (show ∀ l, bkC l = [.pt true [.sl true 7 (l.map eM)]] from fun _ => rfl)
 refine ItCtr.of Tok Tryz.func83 rfl rfl rfl rfl (by simp [ofDL, encs]) (fun w0 kp yd hok => ?_)
 simp only [↓sx0, sxE, encs, sevalprocAttr]
 repeat ((with_reducible refine Vc.go ?_ fun _ => ?_); (focus (first | omega | (simp only [InK]; omega) | (simp [InK] <;> omega))); simp only [↓sx0, sxE, encs, sevalprocAttr])
 refine LoopW.comp [0, 1, 3] (by simp only [sx2, encs, sxR, sevalprocAttr] <;> (try simp) <;> (try omega)) ?_
 simp only [sx2, sxR, sevalprocAttr]
 refine LoopW.upG Tok (fun k : Nat => [(3, (.v (.int .i64 ((l.length : Int) - 1 - k))))]) (fun k => []) (fun k => []) (fun k => []) (fun k => bkL l k) (fun k => k ≤ l.length) (fun k => l.length - k) (0) (by simp only [sx2, encs, sxR, sevalprocAttr] <;> (try simp [bkL, encs]) <;> (try omega)) ?_ ?_
 ·omega
 rintro k hk
 simp only [↓sx0, sxE, encs, sevalprocAttr]
 refine BrW.dec (fun hlt => ?_) (fun hlt => ?_)
 ·simp only [↓sx0, sxE, encs, sevalprocAttr]
  have hkl : k < l.length := by omega
  have hix : l.length - 1 - k < l.length := by omega
  have hgd : l.getD (l.length - 1 - k) mk0 = l[l.length - 1 - k] := by simp [List.getD_eq_getElem?_getD, hix]
  refine ⟨by omega, _, (by rw [show ((l.length : Int) - 1 - k).toNat = l.length - 1 - k by omega, List.getElem?_map, List.getElem?_eq_getElem hix]; rfl), ?_⟩
  have hb : bkY l k = [(.v (.int .i64 ((l.length : Int) - 1 - k))), mV l[l.length - 1 - k]] := by rw [bkY, hgd]
  have hm : bkL l k ++ [[(.v (.int .i64 ((l.length : Int) - 1 - k))), mV l[l.length - 1 - k]]] <+: bkL l l.length := by rw [← hb, ← bkL_succ]; exact bkL_le hkl
  have hs := bkL_succ l k
  rw [hb] at hs
  generalize l[l.length - 1 - k] = x at hm hs ⊢
  simp only [↓sx0, sxE, encs, sevalprocAttr]
  refine YldI.of (ys := bkL l k) hok rfl rfl (by simp only [sx2, sxA, encs, sxR, sevalprocAttr] <;> rfl) (by simp only [sx2, sxA, encs, sxR, sevalprocAttr] <;> rfl) rfl rfl rfl (hm) ?_ ?_
  ·simp only [↓sx0, sxE, encs, sevalprocAttr]
   repeat ((with_reducible refine Vc.go ?_ fun _ => ?_); (focus (first | omega | (simp only [InK]; omega) | (simp [InK] <;> omega))); simp only [↓sx0, sxE, encs, sevalprocAttr])
   refine ⟨k + 1, StLe.auto (by simp only [sx2, encs, sxR, sevalprocAttr] <;> (try simp [hs, encs]) <;> (try omega)), ?_, ?_⟩
   ·omega
   ·omega
  ·simp only [↓sx0, sxE, encs, sevalprocAttr]
   intro h
   cases h
 ·simp only [↓sx0, sxE, encs, sevalprocAttr]
  have hke : k = l.length := by omega
  subst hke
  intro _
  rfl
def invR (l : List Mk) (k : Nat) : List Mk := (List.range k).map fun i => invM (l.getD (l.length - 1 - i) mk0)
theorem invR_succ (l : List Mk) (k : Nat) : invR l (k + 1) = invR l k ++ [invM (l.getD (l.length - 1 - k) mk0)] := by simp [invR, List.range_succ]
theorem invR_all (l : List Mk) : invR l l.length = (l.map invM).reverse := by
 apply List.ext_getElem
 ·simp [invR]
 ·intro i h1 h2
  have hi : i < l.length := by simpa [invR] using h1
  simp [invR, List.getElem_reverse, List.getD_eq_getElem?_getD, List.getElem?_eq_getElem (show l.length - 1 - i < l.length by omega)]
def mkIs (l : List Mk) : List Mk × Int := if lstErr l = 0 then ((l.map invM).reverse, 0) else ([], lstErr l)
set_option maxHeartbeats 4000000 in
theorem InverseAll_s (l : List Mk) (hz : AllMk l) (hl : l.length ≤ 1000000) : Ctr Tryz.prog 17 [.sl true 7 (l.map eM)] (fun rr => rr = ⟨.tup [.sl true 7 ((mkIs l).1.map eM), (.v (.int .i64 ((mkIs l).2)))], []⟩) := by
 have encs := And.intro encs (And.intro (show ∀ p, eML p = [.sl p.1 7 (p.2.map eM)] from fun _ => rfl) (And.intro (show invR l 0 = [] from rfl) (show ∀ l, bkC l = [.pt true [.sl true 7 (l.map eM)]] from fun _ => rfl)))
 have hL : lstsErr [(true, l)] = lstErr l := by simp only [lstsErr]; split <;> simp_all
 have hC := checkMarks_s false [(true, l)] (by simpa using ⟨hz, by omega⟩) (by simp)
 rw [hL] at hC
 refine Ctr.of (rs := [.tmp 2, .tmp 3]) Tok true Tryz.func17 rfl rfl rfl rfl (by simp [ofDL]) (fun w0 kp => ?_)
 simp only [↓sx0, sxE, encs, sevalprocAttr]
 refine CallI.fn (hC) (by simp only [sx3, encs, sxR, sevalprocAttr] <;> (try simp) <;> (try rfl)) ?_
 simp only [↓sx0, sxE, encs, sevalprocAttr]
 refine BrW.dec (fun he => ?_) (fun he => ?_)
 ·rw [show mkIs l = ([], lstErr l) by rw [mkIs, if_neg he]]
  simp only [↓sx0, sxE, encs, sevalprocAttr]
  refine EndW.fn ?_ ?_ <;> simp only [sx4, encs, kpLL_map, sxR, sevalprocAttr] <;> (try simp) <;> (try omega)
 ·rw [show mkIs l = (invR l l.length, 0) by rw [mkIs, if_pos (Decidable.not_not.1 he), invR_all]]
  simp only [↓sx0, sxE, encs, sevalprocAttr]
  refine CallI.fn (backward_s l) (by simp only [sx3, encs, sxR, sevalprocAttr] <;> (try simp) <;> (try rfl)) ?_
  simp only [↓sx0, sxE, encs, sevalprocAttr]
  have hit := backIt_s l hl
  refine RangeW.it Tok (fun _ => rfl) (fun hro => by first | rfl | exact (by rw [hro] at *; contradiction)) (hit) [(5, .box 0 0), (15, .clo 83 (bkC l))] (fun ys => [some ⟨23, [.row 0]⟩]) (fun ys => [.own 78 7 ((invR l ys.length).map eM)]) (fun _ => True) trivial (by simp only [sx2, encs, sxR, sevalprocAttr] <;> (try simp) <;> (try omega)) rfl rfl (by simp [bkL, bkY]) ?_ (fun hJall => ?_)
  ·rintro pre d hpre - ρ σ μ ho' hy hs
   obtain ⟨q, hq⟩ := hpre
   have hk : pre.length < l.length := by
    have := congrArg List.length hq
    simp [bkL] at this; omega
   have hd : d = bkY l pre.length := by
    have : (bkL l l.length)[pre.length]? = some d := by rw [← hq]; simp
    simpa [bkL, List.getElem?_map, List.getElem?_range, hk, eq_comm] using this
   subst hd
   obtain ⟨yd', ro, mks, fr, lp, sz⟩ := ho'
   have hsu := invR_succ l pre.length
   have hlen : (pre ++ [bkY l pre.length]).length = pre.length + 1 := by simp
   have hib : (invR l pre.length).length ≤ 1000000 := by simp [invR]; omega
   rw [hlen, hsu]
   have hb : bkY l pre.length = [(.v (.int .i64 ((l.length : Int) - 1 - pre.length))), mV (l.getD (l.length - 1 - pre.length) mk0)] := rfl
   rw [hb]
   generalize l.getD (l.length - 1 - pre.length) mk0 = x
   simp only [↓sx0, sxE, encs, sevalprocAttr]
   intro fr'
   refine DrawW.plan Tok mixed (.q 0 <| .q 1 <| .e 2 [0] <| .e 3 [0] <| .e 4 [] <| .e 5 [] <| .done) (by kernel_rfl) (by kernel_rfl) ?_
   simp only [↓sx0, sxE, encs, sevalprocAttr]
   refine CallI.fn (inverse_s x) (by simp only [sx3, encs, sxR, sevalprocAttr] <;> (try simp) <;> (try rfl)) ?_
   simp only [↓sx0, sxE, encs, sevalprocAttr]
   repeat ((with_reducible refine Vc.go ?_ fun _ => ?_); (focus (first | omega | (simp only [InK]; omega) | (simp [InK] <;> omega))); simp only [↓sx0, sxE, encs, sevalprocAttr])
   simp only [sx2, encs, sxR, sevalprocAttr] <;> (try simp) <;> (try omega)
   rfl
  ·rw [show (bkL l l.length).length = l.length by simp [bkL]]
   simp only [↓sx0, sxE, encs, sevalprocAttr]
   refine EndW.fn ?_ ?_ <;> simp only [sx4, encs, kpLL_map, sxR, sevalprocAttr] <;> (try simp) <;> (try omega)
end Go.Proofs.YtgcmppghjfidfaaGreatDoor
/-
 Chapter 8: marks are taken back by their inverses (plain).
-/
namespace Go.Proofs.YtgcmppghjfidfaaGreatDoor
open Go Go.Vx
set_option maxRecDepth 20000
theorem mkErr_of {m : Mk} (h1 : 1 ≤ m.mark ∧ m.mark ≤ 7) (h2 : inR m = true) (h3 : wantB m.mark m.old m.new m.was m.kind = true) (h4 : bdE m = 0) : mkErr m = 0 := by
 rw [mkErr, if_pos h1, if_pos h2, if_pos]
 refine ⟨h3, fun h => ?_, fun h => ?_⟩
 ·rw [bdE, if_pos (.inl h)] at h4; omega
 ·rw [bdE, if_pos (.inr h)] at h4; omega
theorem inR_inv (m : Mk) : inR (invM m) = inR m := rfl
theorem mkErr_inv {m : Mk} (h : mkErr m = 0) : mkErr (invM m) = 0 := by
 obtain ⟨h1, h2, h3, h4⟩ := mk_ok h
 obtain ⟨k, p, w, o, n, a, c⟩ := m
 simp only at h1 h3
 have hb : ∀ x y : Int, ∀ s t : ByteArray, ∀ u v : Int, bdE ⟨x, p, w, s, t, u, v⟩ = if ((x = 5 ∨ x = 6) ∧ w = 0) ∨ (x = 7 ∧ w ≠ 0) then 3 else 0 := fun x y s t u v => by simp [bdE, ptsB]
 rw [hb _ 0] at h4
 have hc : k = 1 ∨ k = 2 ∨ k = 3 ∨ k = 4 ∨ k = 5 ∨ k = 6 ∨ k = 7 := by omega
 refine mkErr_of ?_ (by rw [inR_inv]; exact h2) ?_ ?_
 ·rcases hc with rfl | rfl | rfl | rfl | rfl | rfl | rfl <;> simp [invM, invK]
 ·rcases hc with rfl | rfl | rfl | rfl | rfl | rfl | rfl <;> simp [invM, invK, wantB] at h3 ⊢
  ·exact h3
  ·exact h3
  ·exact ⟨⟨⟨h3.1.1.2, h3.1.1.1⟩, fun e => h3.1.2 e.symm⟩, h3.2⟩
  ·exact ⟨h3.2.1, h3.1, h3.2.2⟩
  ·exact ⟨h3.1, h3.2.2.1, h3.2.1, h3.2.2.2⟩
  ·exact ⟨h3.1, h3.2.2.1, h3.2.1, h3.2.2.2⟩
  ·exact ⟨⟨⟨h3.1.1.2, h3.1.1.1⟩, fun e => h3.1.2 e.symm⟩, h3.2.2, h3.2.1⟩
 ·simp only [invM]
  rw [hb _ 0]
  rcases hc with rfl | rfl | rfl | rfl | rfl | rfl | rfl <;> simp [invK] at h4 ⊢ <;> omega
theorem apF_snoc {ms : List Mk} {m : Mk} {l x y : List Pt} {k n : Nat} (h : apF l k ms = (x, n, 0)) (h2 : apV x m = (y, 0)) : apF l k (ms ++ [m]) = (y, 0, 0) := by
 induction ms generalizing l k with
 | nil =>
  rw [apF] at h
  injection h with h1 h3
  subst h1
  rw [List.nil_append, apF, h2]
  rfl
 | cons a ms ih =>
  rw [apF] at h
  rw [List.cons_append, apF]
  by_cases hv : (apV l a).2 = 0
  ·rw [if_pos hv] at h ⊢; exact ih h
  ·rw [if_neg hv] at h; injection h with _ h; injection h with _ h; exact absurd h hv
theorem apV_back {l x : List Pt} {m : Mk} (hm : mkErr m = 0) (h0 : (partsErr l).2 = 0) (h : apV l m = (x, 0)) : apV x (invM m) = (l, 0) :=
 RP_apV (mkErr_inv hm) (RP_inv (apV_RP hm h)) h0
theorem apF_back {ms : List Mk} {l : List Pt} {k : Nat} (hm : ∀ m ∈ ms, mkErr m = 0) (h0 : (partsErr l).2 = 0) (h : (apF l k ms).2.2 = 0) : apF (apF l k ms).1 0 (ms.map invM).reverse = (l, 0, 0) := by
 induction ms generalizing l k with
 | nil => rfl
 | cons m ms ih =>
  rw [apF] at h ⊢
  by_cases hv : (apV l m).2 = 0
  ·rw [if_pos hv] at h ⊢
   have := ih (fun x hx => hm x (List.mem_cons_of_mem _ hx)) (apV_ok hv) h
   rw [List.map_cons, List.reverse_cons]
   exact apF_snoc this (apV_back (hm m List.mem_cons_self) h0 (Prod.ext rfl hv))
  ·rw [if_neg hv] at h; exact absurd h hv
theorem apAll_ok {l : List Pt} {ms : List Mk} (h : (apAll l ms).2.2 = 0) : ((partsErr l).2 = 0 ∧ lstErr ms = 0) ∧ apAll l ms = apF l 0 ms := by
 unfold apAll at h ⊢
 by_cases h0 : (partsErr l).2 = 0
 ·rw [if_pos h0] at h ⊢
  by_cases h1 : lstErr ms = 0
  ·rw [if_pos h1]; exact ⟨⟨h0, h1⟩, rfl⟩
  ·rw [if_neg h1] at h; exact absurd h h1
 ·rw [if_neg h0] at h; exact absurd h h0
theorem apAll_back {l : List Pt} {ms : List Mk} (h : (apAll l ms).2.2 = 0) : (mkIs ms = ((ms.map invM).reverse, 0) ∧ (partsErr (apAll l ms).1).2 = 0) ∧ apAll (apAll l ms).1 (ms.map invM).reverse = (l, 0, 0) := by
 obtain ⟨⟨h0, h1⟩, he⟩ := apAll_ok h
 rw [he] at h ⊢
 obtain ⟨hl, hm⟩ := lstA h1
 have hr := (apF_RPs hm h).2 h0
 refine ⟨⟨by rw [mkIs, if_pos h1], hr⟩, ?_⟩
 rw [apAll, if_pos hr, if_pos, apF_back hm h0 h]
 refine lstB (by simp; exact hl) fun m hx => ?_
 simp only [List.mem_reverse, List.mem_map] at hx
 obtain ⟨y, hy, rfl⟩ := hx
 exact mkErr_inv (hm y hy)
theorem allMk_inv {l : List Mk} (h : AllMk l) : AllMk (l.map invM).reverse := by
 intro m hm
 simp only [List.mem_reverse, List.mem_map] at hm
 obtain ⟨y, hy, rfl⟩ := hm
 exact invM_sz (h y hy)
end Go.Proofs.YtgcmppghjfidfaaGreatDoor
/-
 Chapter 8: where two copies differ first (the program and the reference).
-/
namespace Go.Proofs.YtgcmppghjfidfaaGreatDoor
open Go Go.Vx
set_option maxRecDepth 20000
def fwW : List ByteArray → List ByteArray → Nat → Option Nat
 | [], [], _ => none
 | x :: xs, y :: ys, n => if x = y then fwW xs ys (n + 1) else some n
 | _, _, n => some n
def fcP : List Pt → List Pt → Nat → Option (Nat × Nat)
 | [], [], _ => none
 | p :: ps, q :: qs, n => if p.kind = q.kind then (match fwW p.words q.words 0 with | some w => some (n, w) | none => fcP ps qs (n + 1)) else some (n, 0)
 | _, _, n => some (n, 0)
def fcV (a b : List Pt) : (Nat × Nat) × Int := match fcP a b 0 with
 | some p => (p, 0)
 | none => ((0, 0), 12)
theorem fwW_in {x y : List ByteArray} {w : Nat} (hx : w < x.length) (hy : w < y.length) : fwW (x.drop w) (y.drop w) w = if x[w] = y[w] then fwW (x.drop (w + 1)) (y.drop (w + 1)) (w + 1) else some w := by
 rw [List.drop_eq_getElem_cons hx, List.drop_eq_getElem_cons hy, fwW]
theorem fwW_out {x y : List ByteArray} {w : Nat} (h : (w < x.length ∧ y.length ≤ w) ∨ (x.length ≤ w ∧ w < y.length)) : fwW (x.drop w) (y.drop w) w = some w := by
 rcases h with ⟨h1, h2⟩ | ⟨h1, h2⟩
 ·rw [List.drop_eq_getElem_cons h1, List.drop_eq_nil_of_le h2]; rfl
 ·rw [List.drop_eq_getElem_cons h2, List.drop_eq_nil_of_le h1]; rfl
theorem fwW_end {x y : List ByteArray} {w : Nat} (h1 : x.length ≤ w) (h2 : y.length ≤ w) : fwW (x.drop w) (y.drop w) w = none := by
 rw [List.drop_eq_nil_of_le h1, List.drop_eq_nil_of_le h2]; rfl
theorem fcP_in {a b : List Pt} {n : Nat} (hx : n < a.length) (hy : n < b.length) : fcP (a.drop n) (b.drop n) n = if a[n].kind = b[n].kind then (match fwW a[n].words b[n].words 0 with | some w => some (n, w) | none => fcP (a.drop (n + 1)) (b.drop (n + 1)) (n + 1)) else some (n, 0) := by
 rw [List.drop_eq_getElem_cons hx, List.drop_eq_getElem_cons hy, fcP]
theorem fcP_out {a b : List Pt} {n : Nat} (h : (n < a.length ∧ b.length ≤ n) ∨ (a.length ≤ n ∧ n < b.length)) : fcP (a.drop n) (b.drop n) n = some (n, 0) := by
 rcases h with ⟨h1, h2⟩ | ⟨h1, h2⟩
 ·rw [List.drop_eq_getElem_cons h1, List.drop_eq_nil_of_le h2]; rfl
 ·rw [List.drop_eq_getElem_cons h2, List.drop_eq_nil_of_le h1]; rfl
theorem fcP_end {a b : List Pt} {n : Nat} (h1 : a.length ≤ n) (h2 : b.length ≤ n) : fcP (a.drop n) (b.drop n) n = none := by
 rw [List.drop_eq_nil_of_le h1, List.drop_eq_nil_of_le h2]; rfl
theorem fcV_some {a b : List Pt} {p : Nat × Nat} (h : fcP a b 0 = some p) : fcV a b = (p, 0) := by rw [fcV, h]
theorem fcV_none {a b : List Pt} (h : fcP a b 0 = none) : fcV a b = ((0, 0), 12) := by rw [fcV, h]
def fcS (v : (Nat × Nat) × Int) : SV := .tup [.agg [(.v (.int .i64 ((v.1.1 : Int)))), (.v (.int .i64 ((v.1.2 : Int))))], (.v (.int .i64 v.2))]
theorem fcS_at (a b : Nat) (e : Int) : fcS ((a, b), e) = .tup [.agg [(.v (.int .i64 ((a : Int)))), (.v (.int .i64 ((b : Int))))], (.v (.int .i64 e))] := rfl
def fcA (a b : List Pt) : (Nat × Nat) × Int := if (partsErr a).2 = 0 then (if (partsErr b).2 = 0 then fcV a b else ((0, 0), (partsErr b).2)) else ((0, 0), (partsErr a).2)
set_option maxHeartbeats 8000000 in
theorem firstChanged_s (b1 b2 b3 b4 : Bool) (a b : List Pt) (ha : a.length ≤ 1000000) (hb : b.length ≤ 1000000) (haw : ∀ p ∈ a, p.words.length ≤ 1000000) (hbw : ∀ p ∈ b, p.words.length ≤ 1000000) :
  Ctr Tryz.prog 19 [.sl b1 2 (a.map (eP b2)), .sl b3 2 (b.map (eP b4))] (fun rr => rr = ⟨fcS (fcA a b), []⟩) := by
 have encs := And.intro encs fcS_at
 refine Ctr.of (rs := [.cell 4 44, .tmp 5]) Tok true Tryz.func19 rfl rfl rfl rfl (by simp [ofDL]) (fun w0 kp => ?_)
 simp only [↓sx0, sxE, encs, sevalprocAttr]
 refine LoopW.comp [0, 1, 4, 15, 16] (by simp only [sx2, encs, sxR, sevalprocAttr] <;> (try simp) <;> (try omega)) ?_
 simp only [sx2, sxR, sevalprocAttr]
 refine LoopW.up Tok (fun k : Nat => [(16, (.v (.int .i64 k)))]) (fun k => []) (fun k => []) (fun k => []) (fun k => k ≤ 2 ∧ (0 < k → (partsErr a).2 = 0) ∧ (1 < k → (partsErr b).2 = 0)) (fun k => 2 - k) (0) (by simp only [sx2, encs, sxR, sevalprocAttr] <;> (try simp) <;> (try omega)) ?_ ?_
 ·exact ⟨by omega, fun h => absurd h (by omega), fun h => absurd h (by omega)⟩
 rintro k ⟨hk, h1, h2⟩
 simp only [↓sx0, sxE, encs, sevalprocAttr]
 refine BrW.dec (fun hlt => ?_) (fun hlt => ?_)
 ·have hk2 : k = 0 ∨ k = 1 := by omega
  rcases hk2 with rfl | rfl
  ·simp only [↓sx0, sxE, encs, sevalprocAttr]
   refine ArrIx.go (by simp) ?_
   simp only [↓sx0, sxE, encs, sevalprocAttr]
   refine CallI.fn (checkCopy_s b1 b2 a) (by simp only [sx3, encs, sxR, sevalprocAttr] <;> (try simp) <;> (try rfl)) ?_
   simp only [↓sx0, sxE, encs, sevalprocAttr]
   refine BrW.dec (fun he => ?_) (fun he => ?_)
   ·rw [show fcA a b = ((0, 0), (partsErr a).2) by rw [fcA, if_neg he]]
    simp only [↓sx0, sxE, encs, sevalprocAttr]
    refine EndW.fn ?_ ?_ <;> simp only [sx4, encs, kpLL_map, sxR, sevalprocAttr] <;> (try simp) <;> (try omega)
   ·simp only [↓sx0, sxE, encs, sevalprocAttr]
    repeat ((with_reducible refine Vc.go ?_ fun _ => ?_); (focus (first | omega | (simp only [InK]; omega) | (simp [InK] <;> omega))); simp only [↓sx0, sxE, encs, sevalprocAttr])
    refine ⟨1, StLe.auto (by simp only [sx2, encs, sxR, sevalprocAttr] <;> (try simp) <;> (try omega)), ?_, ?_⟩
    ·exact ⟨by omega, fun _ => by omega, fun h => absurd h (by omega)⟩
    ·omega
  ·simp only [↓sx0, sxE, encs, sevalprocAttr]
   refine ArrIx.go (by simp) ?_
   simp only [↓sx0, sxE, encs, sevalprocAttr]
   refine CallI.fn (checkCopy_s b3 b4 b) (by simp only [sx3, encs, sxR, sevalprocAttr] <;> (try simp) <;> (try rfl)) ?_
   simp only [↓sx0, sxE, encs, sevalprocAttr]
   refine BrW.dec (fun he => ?_) (fun he => ?_)
   ·rw [show fcA a b = ((0, 0), (partsErr b).2) by rw [fcA, if_pos (h1 (by omega)), if_neg he]]
    simp only [↓sx0, sxE, encs, sevalprocAttr]
    refine EndW.fn ?_ ?_ <;> simp only [sx4, encs, kpLL_map, sxR, sevalprocAttr] <;> (try simp) <;> (try omega)
   ·simp only [↓sx0, sxE, encs, sevalprocAttr]
    repeat ((with_reducible refine Vc.go ?_ fun _ => ?_); (focus (first | omega | (simp only [InK]; omega) | (simp [InK] <;> omega))); simp only [↓sx0, sxE, encs, sevalprocAttr])
    refine ⟨2, StLe.auto (by simp only [sx2, encs, sxR, sevalprocAttr] <;> (try simp) <;> (try omega)), ?_, ?_⟩
    ·exact ⟨by omega, fun _ => h1 (by omega), fun h => by omega⟩
    ·omega
 rw [show fcA a b = fcV a b by rw [fcA, if_pos (h1 (by omega)), if_pos (h2 (by omega))]]
 clear h1 h2 hlt hk
 simp only [↓sx0, sxE, encs, sevalprocAttr]
 refine LoopW.comp [0, 1, 4, 30, 31] (by simp only [sx2, encs, sxR, sevalprocAttr] <;> (try simp) <;> (try omega)) ?_
 simp only [sx2, sxR, sevalprocAttr]
 refine LoopW.up Tok (fun n : Nat => [(31, (.v (.int .i64 ((n : Int)))))]) (fun n => []) (fun n => []) (fun n => []) (fun n => (n ≤ a.length ∨ n ≤ b.length) ∧ fcP (a.drop n) (b.drop n) n = fcP a b 0) (fun n => a.length + b.length - n) (0) (by simp only [sx2, encs, sxR, sevalprocAttr] <;> (try simp) <;> (try omega)) ?_ ?_
 ·exact ⟨.inl (Nat.zero_le _), rfl⟩
 rintro n ⟨hn, hJ⟩
 simp only [↓sx0, sxE, encs, sevalprocAttr]
 by_cases hm : n < a.length ∨ n < b.length
 ·refine BrW.yes (by omega) ?_
  simp only [↓sx0, sxE, encs, sevalprocAttr]
  refine DrawW.plan Tok mixed (.q 0 <| .q 1 <| .q 2 <| .q 3 <| .q 4 <| .q 5 <| .q 6 <| .q 7 <| .q 8 <| .q 9 <| .q 10 <| .q 11 <| .q 12 <| .q 13 <| .q 14 <| .q 15 <| .q 16 <| .q 17 <| .q 18 <| .q 19 <| .done) (by kernel_rfl) (by kernel_rfl) ?_
  simp only [↓sx0, sxE, encs, sevalprocAttr]
  by_cases hi : n < a.length ∧ n < b.length
  ·obtain ⟨h1, h2⟩ := hi
   have hin := fcP_in h1 h2
   have hwa := haw a[n] (List.getElem_mem h1)
   have hwb := hbw b[n] (List.getElem_mem h2)
   refine BrW.no (by omega) ?_
   simp only [↓sx0, sxE, encs, sevalprocAttr]
   refine IxW.nat h1 ?_
   simp only [↓sx0, sxE, encs, sevalprocAttr]
   refine IxW.nat h2 ?_
   simp only [↓sx0, sxE, encs, sevalprocAttr]
   refine BrW.dec (fun hk => ?_) (fun hk => ?_)
   ·rw [if_neg hk] at hin
    rw [fcV_some (hJ.symm.trans hin)]
    simp only [↓sx0, sxE, encs, sevalprocAttr]
    refine EndW.fn ?_ ?_ <;> simp only [sx4, encs, kpLL_map, sxR, sevalprocAttr] <;> (try simp) <;> (try omega)
   ·simp only [↓sx0, sxE, encs, sevalprocAttr]
    have hk : a[n].kind = b[n].kind := Decidable.not_not.1 hk
    rw [if_pos hk] at hin
    refine DrawW.plan Tok mixed (.q 0 <| .q 1 <| .q 2 <| .q 3 <| .q 4 <| .q 5 <| .q 6 <| .q 7 <| .q 8 <| .q 9 <| .q 10 <| .q 11 <| .done) (by kernel_rfl) (by kernel_rfl) ?_
    simp only [↓sx0, sxE, encs, sevalprocAttr]
    refine IxW.nat h1 ?_
    simp only [↓sx0, sxE, encs, sevalprocAttr]
    refine IxW.nat h2 ?_
    simp only [↓sx0, sxE, encs, sevalprocAttr]
    refine LoopW.comp [0, 1, 4, 9, 10, 11, 30, 31, 70, 71] (by simp only [sx2, encs, sxR, sevalprocAttr] <;> (try simp) <;> (try omega)) ?_
    simp only [sx2, sxR, sevalprocAttr]
    refine LoopW.up Tok (fun w : Nat => [(71, (.v (.int .i64 ((w : Int)))))]) (fun w => []) (fun w => []) (fun w => []) (fun w => (w ≤ a[n].words.length ∨ w ≤ b[n].words.length) ∧ fwW (a[n].words.drop w) (b[n].words.drop w) w = fwW a[n].words b[n].words 0) (fun w => a[n].words.length + b[n].words.length - w) (0) (by simp only [sx2, encs, sxR, sevalprocAttr] <;> (try simp) <;> (try omega)) ?_ ?_
    ·exact ⟨.inl (Nat.zero_le _), rfl⟩
    rintro w ⟨hw, hW⟩
    simp only [↓sx0, sxE, encs, sevalprocAttr]
    by_cases hm2 : w < a[n].words.length ∨ w < b[n].words.length
    ·refine BrW.yes (by omega) ?_
     simp only [↓sx0, sxE, encs, sevalprocAttr]
     refine DrawW.plan Tok mixed (.q 0 <| .q 1 <| .q 2 <| .q 3 <| .q 4 <| .q 5 <| .q 6 <| .q 7 <| .q 8 <| .q 9 <| .q 10 <| .q 11 <| .q 12 <| .q 13 <| .q 14 <| .q 15 <| .q 16 <| .q 17 <| .done) (by kernel_rfl) (by kernel_rfl) ?_
     simp only [↓sx0, sxE, encs, sevalprocAttr]
     by_cases hi2 : w < a[n].words.length ∧ w < b[n].words.length
     ·obtain ⟨h3, h4⟩ := hi2
      have hwin := fwW_in h3 h4
      refine BrW.no (by omega) ?_
      simp only [↓sx0, sxE, encs, sevalprocAttr]
      refine IxW.nat h3 ?_
      simp only [↓sx0, sxE, encs, sevalprocAttr]
      refine IxW.nat h4 ?_
      simp only [↓sx0, sxE, encs, sevalprocAttr]
      refine BrW.dec (fun hq => ?_) (fun hq => ?_)
      ·rw [if_neg hq] at hwin
       rw [hW.symm.trans hwin] at hin
       rw [fcV_some (hJ.symm.trans hin)]
       simp only [↓sx0, sxE, encs, sevalprocAttr]
       refine EndW.fn ?_ ?_ <;> simp only [sx4, encs, kpLL_map, sxR, sevalprocAttr] <;> (try simp) <;> (try omega)
      ·have hq := Decidable.not_not.1 hq
       rw [if_pos hq] at hwin
       simp only [↓sx0, sxE, encs, sevalprocAttr]
       repeat ((with_reducible refine Vc.go ?_ fun _ => ?_); (focus (first | omega | (simp only [InK]; omega) | (simp [InK] <;> omega))); simp only [↓sx0, sxE, encs, sevalprocAttr])
       refine ⟨w + 1, StLe.auto (by simp only [sx2, encs, sxR, sevalprocAttr] <;> (try simp) <;> (try omega)), ?_, ?_⟩
       ·exact ⟨by omega, by rw [← hW, hwin]⟩
       ·omega
     ·refine BrW.yes (by omega) ?_
      have hwo := fwW_out (x := a[n].words) (y := b[n].words) (w := w) (by omega)
      rw [hW.symm.trans hwo] at hin
      rw [fcV_some (hJ.symm.trans hin)]
      simp only [↓sx0, sxE, encs, sevalprocAttr]
      refine EndW.fn ?_ ?_ <;> simp only [sx4, encs, kpLL_map, sxR, sevalprocAttr] <;> (try simp) <;> (try omega)
    ·refine BrW.no (by omega) ?_
     have hwe := fwW_end (x := a[n].words) (y := b[n].words) (w := w) (by omega) (by omega)
     rw [hW.symm.trans hwe] at hin
     simp only at hin
     simp only [↓sx0, sxE, encs, sevalprocAttr]
     repeat ((with_reducible refine Vc.go ?_ fun _ => ?_); (focus (first | omega | (simp only [InK]; omega) | (simp [InK] <;> omega))); simp only [↓sx0, sxE, encs, sevalprocAttr])
     refine ⟨n + 1, StLe.auto (by simp only [sx2, encs, sxR, sevalprocAttr] <;> (try simp) <;> (try omega)), ?_, ?_⟩
     ·exact ⟨by omega, by rw [← hJ, hin]⟩
     ·omega
  ·refine BrW.yes (by omega) ?_
   have hin := fcP_out (a := a) (b := b) (n := n) (by omega)
   rw [fcV_some (hJ.symm.trans hin)]
   simp only [↓sx0, sxE, encs, sevalprocAttr]
   refine EndW.fn ?_ ?_ <;> simp only [sx4, encs, kpLL_map, sxR, sevalprocAttr] <;> (try simp) <;> (try omega)
 ·refine BrW.no (by omega) ?_
  have hin := fcP_end (a := a) (b := b) (n := n) (by omega) (by omega)
  rw [fcV_none (hJ.symm.trans hin)]
  simp only [↓sx0, sxE, encs, sevalprocAttr]
  refine EndW.fn ?_ ?_ <;> simp only [sx4, encs, kpLL_map, sxR, sevalprocAttr] <;> (try simp) <;> (try omega)
end Go.Proofs.YtgcmppghjfidfaaGreatDoor
/-
 Chapter 8: numbers as texts, texts cut (the reference).
-/
namespace Go.Proofs.YtgcmppghjfidfaaGreatDoor
open Go Go.Vx
set_option maxRecDepth 20000
def bs (l : List UInt8) : ByteArray := ⟨l.toArray⟩
theorem bs_add (a b : List UInt8) : bs a ++ bs b = bs (a ++ b) := by
 apply ByteArray.ext
 simp [bs, ByteArray.data_append]
theorem bs_size (a : List UInt8) : (bs a).size = a.length := by simp [bs, ByteArray.size]
theorem bs_data (s : ByteArray) : bs s.data.toList = s := by cases s; rfl
theorem bs_toList (a : List UInt8) : (bs a).data.toList = a := by simp [bs]
theorem bs_inj {a b : List UInt8} : bs a = bs b ↔ a = b := ⟨fun h => by rw [← bs_toList a, h, bs_toList], fun h => by rw [h]⟩
theorem CvR.go {e : TypeId} {els : List (List D)} {K : SV → St → Prop} {st : St} (h : 0 < els.length) (z : ByteArray) (hz : els = bytesD z) (hk : K (.v (.string z)) st) : CvR (some (.own e 1 els)) K st ⟨⟩ := ⟨rfl, h, z, hz, hk⟩
theorem dec_len : ∀ (k u : Nat), u < 10 ^ (k + 1) → (Lib.decDigits u).length ≤ k + 1
 | 0, u, h => by rw [Lib.decDigits, dif_pos (by omega)]; simp
 | k + 1, u, h => by
  rw [Lib.decDigits]
  split
  ·simp
  ·have h10 : 10 ^ (k + 1 + 1) = 10 ^ (k + 1) * 10 := Nat.pow_succ 10 (k + 1)
   have := dec_len k (u / 10) (by omega)
   simp only [List.length_append, List.length_singleton]
   omega
theorem bs_nil : bs [] = ⟨#[]⟩ := rfl
structure DecS where
 m : Int
 suf : List UInt8
end Go.Proofs.YtgcmppghjfidfaaGreatDoor
/-
 Chapter 8: numbers of texts, texts cut (the reference).
-/
namespace Go.Proofs.YtgcmppghjfidfaaGreatDoor
open Go Go.Vx
set_option maxRecDepth 20000
structure NS where
 a : List UInt8
 b : List UInt8
end Go.Proofs.YtgcmppghjfidfaaGreatDoor
/-
 Chapter 8: texts cut (the reference).
-/
namespace Go.Proofs.YtgcmppghjfidfaaGreatDoor
open Go Go.Vx
set_option maxRecDepth 20000
def eW (p : List UInt8) : List D := [(.v (.string (bs p)))]
theorem eW_def : ∀ p, eW p = [(.v (.string (bs p)))] := fun _ => rfl
theorem bs_ext (A p B : List UInt8) (i j : Nat) (hi : i = A.length) (hj : j = A.length + p.length) : (bs (A ++ p ++ B)).extract i j = bs p := by
 subst hi hj
 apply ByteArray.ext
 simp only [bs, ByteArray.data_extract]
 apply Array.toList_inj.1
 simp [List.extract_eq_take_drop, List.drop_append, List.take_append]
structure CS where
 A : List UInt8
 p : List UInt8
 b : List UInt8
 O : List (List UInt8)
end Go.Proofs.YtgcmppghjfidfaaGreatDoor
/-
 Chapter 8: words of texts.
-/
namespace Go.Proofs.YtgcmppghjfidfaaGreatDoor
open Go Go.Vx
set_option maxRecDepth 20000
theorem itoa_len {n : Int} (h : -9223372036854775808 ≤ n ∧ n ≤ 9223372036854775807) : (Lib.itoa n).length ≤ 21 := by
 rw [Lib.itoa]
 split
 ·have := dec_len 19 n.natAbs (by omega)
  simp only [List.length_cons]; omega
 ·have := dec_len 19 n.toNat (by omega)
  omega
theorem split_T (s : List UInt8) (hs : s.length ≤ 1000000) : CtrK glob Tryz.prog 78 [(.v (.string (bs s))), (.v (.string (⟨#[32]⟩)))] (fun rr => rr = ⟨.row 0, [.own 9 1 ((cutL 32 [] s).map eW)]⟩) := by
 have h := split_s (bs s) 32 (by rw [bs_size]; omega)
 have e := split_cut 32 (bs s)
 rw [bs_toList] at e
 rw [show (cutL 32 [] s).map eW = (Lib.splitB ⟨#[32]⟩ 0 (Lib.countB (bs s) ⟨#[32]⟩) (bs s)).map fun x => [.v (.string x)] by
  rw [← e, List.map_map]
  exact List.map_congr_left fun x _ => by simp only [Function.comp, eW, bs_data]]
 exact h
theorem join_T (b : Bool) (W : List (List UInt8)) (hN : W.length ≤ 1000000) (hlen : (Lib.join W [32]).length ≤ 140737488355328) : Ctr Tryz.prog 56 [.sl b 1 (W.map eW), (.v (.string (⟨#[32]⟩)))] (fun rr => rr = ⟨(.v (.string (bs (Lib.join W [32])))), []⟩) := by
 have e : (W.map bs).map (·.data.toList) = W := by
  rw [List.map_map]
  conv => rhs; rw [← List.map_id W]
  exact List.map_congr_left fun x _ => bs_toList x
 have h := join_s b (W.map bs) ⟨#[32]⟩ (by simpa using hN) (by rw [e]; exact hlen)
 rw [e, List.map_map] at h
 exact h
theorem cut_join : ∀ (W : List (List UInt8)), W ≠ [] → (∀ w ∈ W, ¬ (32 : UInt8) ∈ w) → cutL 32 [] (Lib.join W [32]) = W
 | [], h, _ => absurd rfl h
 | [w], _, h => by rw [Lib.join_one, cut_miss _ _ (h w (by simp))]; rfl
 | w :: v :: r, _, h => by
  have ih := cut_join (v :: r) (by simp) (fun x hx => h x (List.mem_cons_of_mem _ hx))
  have hj : Lib.join (w :: v :: r) [32] = w ++ 32 :: Lib.join (v :: r) [32] := by
   rw [Lib.join_cons, Lib.join_cons]; simp [Lib.joinTail]
  rw [hj, cut_hit w [] _ (h w (by simp)), ih]; rfl
theorem join_len : ∀ (W : List (List UInt8)) (m : Nat), (∀ w ∈ W, w.length ≤ m) → (Lib.join W [32]).length ≤ (m + 1) * W.length
 | [], m, _ => by simp [Lib.join]
 | [w], m, h => by
  rw [Lib.join_one]
  have := h w (by simp)
  simp only [List.length_cons, List.length_nil]; omega
 | w :: v :: r, m, h => by
  have ih := join_len (v :: r) m (fun x hx => h x (List.mem_cons_of_mem _ hx))
  have h0 := h w (by simp)
  have hj : Lib.join (w :: v :: r) [32] = w ++ 32 :: Lib.join (v :: r) [32] := by
   rw [Lib.join_cons, Lib.join_cons]; simp [Lib.joinTail]
  rw [hj, List.length_append, List.length_cons, List.length_cons, Nat.mul_succ]
  omega
theorem cutL_mem (c : UInt8) : ∀ (l acc w : List UInt8), w ∈ cutL c acc l → w.length ≤ acc.length + l.length
 | [], acc, w, h => by
  simp only [cutL, List.mem_singleton] at h
  subst h; simp
 | x :: l, acc, w, h => by
  simp only [cutL] at h
  split at h
  ·rcases List.mem_cons.1 h with rfl | h
   ·simp
   ·have := cutL_mem c l [] w h
    simp only [List.length_nil, List.length_cons] at *; omega
  ·have := cutL_mem c l (acc ++ [x]) w h
   simp only [List.length_append, List.length_cons, List.length_nil] at *; omega
end Go.Proofs.YtgcmppghjfidfaaGreatDoor
/-
 Chapter 8: copies as texts (plain), and what is the same does not differ.
-/
namespace Go.Proofs.YtgcmppghjfidfaaGreatDoor
open Go Go.Vx
set_option maxRecDepth 20000
theorem fwW_self : ∀ (x : List ByteArray) (n : Nat), fwW x x n = none
 | [], _ => rfl
 | x :: xs, n => by rw [fwW, if_pos rfl]; exact fwW_self xs (n + 1)
theorem fcP_self : ∀ (l : List Pt) (n : Nat), fcP l l n = none
 | [], _ => rfl
 | p :: ps, n => by rw [fcP, if_pos rfl, fwW_self]; exact fcP_self ps (n + 1)
theorem fcA_self {l : List Pt} (h : (partsErr l).2 = 0) : fcA l l = ((0, 0), 12) := by
 rw [fcA, if_pos h, if_pos h, fcV_none (fcP_self l 0)]
def mkB (k : Int) : ByteArray := if k = 2 then ⟨#[35, 32]⟩ else if k = 3 then ⟨#[94, 32]⟩ else ⟨#[]⟩
def wsB (p : Pt) : ByteArray := ⟨(Lib.join (p.words.map (·.data.toList)) (⟨#[32]⟩ : ByteArray).data.toList).toArray⟩
def pttB (p : Pt) : ByteArray := mkB p.kind ++ wsB p ++ ⟨#[10]⟩
def ptS (p : Pt) : List D := [.v (.string (pttB p))]
def cpB (l : List Pt) : ByteArray := ⟨(Lib.join ((l.map pttB).map (·.data.toList)) (⟨#[10]⟩ : ByteArray).data.toList).toArray⟩
theorem joinN_len (s : UInt8) : ∀ (W : List (List UInt8)) (m : Nat), (∀ w ∈ W, w.length ≤ m) → (Lib.join W [s]).length ≤ (m + 1) * W.length
 | [], m, _ => by simp [Lib.join]
 | [w], m, h => by
  rw [Lib.join_one]
  have := h w (by simp)
  simp only [List.length_cons, List.length_nil]; omega
 | w :: v :: r, m, h => by
  have ih := joinN_len s (v :: r) m (fun x hx => h x (List.mem_cons_of_mem _ hx))
  have h0 := h w (by simp)
  have hj : Lib.join (w :: v :: r) [s] = w ++ s :: Lib.join (v :: r) [s] := by
   rw [Lib.join_cons, Lib.join_cons]; simp [Lib.joinTail]
  rw [hj, List.length_append, List.length_cons, List.length_cons, Nat.mul_succ]
  omega
theorem part_words {p : Pt} (h : partErr p = 0) : (1 ≤ p.kind ∧ p.kind ≤ 3) ∧ p.words.length ≤ 100 ∧ ∀ s ∈ p.words, s.size ≤ 30 := by
 unfold partErr at h
 split at h
 ·rename_i hk
  split at h
  ·simp at h
  split at h
  ·simp at h
  split at h
  ·simp at h
  rename_i h1 h2 h3
  refine ⟨hk, by omega, fun s hs => ?_⟩
  have h4 : p.words.any badW = false := by
   cases hb : p.words.any badW with
   | false => rfl
   | true => exact absurd (.inl hb) h3
  have h5 := List.any_eq_false.1 h4 s hs
  have h6 : isWd s = true := by simpa [badW] using h5
  simp [isWd] at h6
  omega
 ·simp at h
theorem wsB_size {p : Pt} (h : partErr p = 0) : (wsB p).size ≤ 3100 := by
 obtain ⟨hk, hn, hs⟩ := part_words h
 have := joinN_len 32 (p.words.map (·.data.toList)) 30 (fun w hw => by
  obtain ⟨s, hs1, rfl⟩ := List.mem_map.1 hw
  exact hs s hs1)
 show (Lib.join (p.words.map (·.data.toList)) [32]).toArray.size ≤ 3100
 rw [List.size_toArray]
 rw [List.length_map] at this
 omega
theorem mkB_size (k : Int) : (mkB k).size ≤ 2 := by
 unfold mkB
 split
 ·decide
 ·split <;> decide
theorem pttB_size {p : Pt} (h : partErr p = 0) : (pttB p).size ≤ 3103 := by
 have := wsB_size h
 have h2 : (mkB p.kind).size ≤ 2 := mkB_size _
 have h3 : (⟨#[10]⟩ : ByteArray).size = 1 := rfl
 rw [pttB, ByteArray.size_append, ByteArray.size_append, h3]
 omega
theorem parts_all {l : List Pt} (h : (partsErr l).2 = 0) : l.length ≤ 60 ∧ ∀ p ∈ l, partErr p = 0 := by
 refine ⟨(parts_ok h).1, ?_⟩
 unfold partsErr at h
 split at h
 ·simp at h
 ·exact fun p hp => partsE_ok l 0 h p hp
theorem cpB_len {l : List Pt} (h : (partsErr l).2 = 0) : (Lib.join ((l.map pttB).map (·.data.toList)) (⟨#[10]⟩ : ByteArray).data.toList).length ≤ 140737488355328 := by
 obtain ⟨h1, h2⟩ := parts_all h
 have := joinN_len 10 ((l.map pttB).map (·.data.toList)) 3103 (fun w hw => by
  obtain ⟨s, hs, rfl⟩ := List.mem_map.1 hw
  obtain ⟨p, hp, rfl⟩ := List.mem_map.1 hs
  exact pttB_size (h2 p hp))
 rw [List.length_map, List.length_map] at this
 show (Lib.join ((l.map pttB).map (·.data.toList)) [10]).length ≤ _
 omega
end Go.Proofs.YtgcmppghjfidfaaGreatDoor
/-
 Chapter 2, walks: a copy's text.
-/
namespace Go.Proofs.YtgcmppghjfidfaaGreatDoor
open Go Go.Vx
set_option maxRecDepth 20000
theorem markOf_s (k : Int) : Ctr Tryz.prog 55 [(.v (.int .i64 k))] (fun rr => rr = ⟨(.v (.string (mkB k))), []⟩) := by
 refine Ctr.of (rs := [.tmp 2]) Tok true Tryz.func55 rfl rfl rfl rfl (by simp [ofDL]) (fun w0 kp => ?_)
 simp only [↓sx0, xE, sevalprocAttr]
 refine BrW.dec (fun h2 => ?_) (fun h2 => ?_)
 ·simp only [↓sx0, xE, sevalprocAttr]
  refine EndW.fn ?_ ?_ <;> simp only [sx4, xK, sevalprocAttr] <;> (try simp [mkB, h2]) <;> (try omega)
 ·simp only [↓sx0, xE, sevalprocAttr]
  refine BrW.dec (fun h3 => ?_) (fun h3 => ?_)
  ·simp only [↓sx0, xE, sevalprocAttr]
   refine EndW.fn ?_ ?_ <;> simp only [sx4, xK, sevalprocAttr] <;> (try simp [mkB, h3]) <;> (try omega)
  ·simp only [↓sx0, xE, sevalprocAttr]
   refine EndW.fn ?_ ?_ <;> simp only [sx4, xK, sevalprocAttr] <;> (try simp [mkB, h2, h3]) <;> (try omega)
theorem joinW_s (b : Bool) (p : Pt) (h : partErr p = 0) : Ctr Tryz.prog 56 [.sl b 1 (p.words.map eS), (.v (.string (⟨#[32]⟩)))] (fun rr => rr = ⟨(.v (.string (wsB p))), []⟩) := by
 obtain ⟨hk, hn, hs⟩ := part_words h
 refine join_s b p.words ⟨#[32]⟩ (by omega) ?_
 have := wsB_size h
 have e : (wsB p).size = (Lib.join (p.words.map (·.data.toList)) (⟨#[32]⟩ : ByteArray).data.toList).length := by
  show (Lib.join (p.words.map (·.data.toList)) (⟨#[32]⟩ : ByteArray).data.toList).toArray.size = _
  rw [List.size_toArray]
 omega
theorem joinC_s (b : Bool) (l : List Pt) (h : (partsErr l).2 = 0) : Ctr Tryz.prog 56 [.sl b 1 (l.map ptS), (.v (.string (⟨#[10]⟩)))] (fun rr => rr = ⟨(.v (.string (cpB l))), []⟩) := by
 have := join_s b (l.map pttB) ⟨#[10]⟩ (by have := (parts_all h).1; simp; omega) (cpB_len h)
 rw [List.map_map] at this
 exact this
set_option maxHeartbeats 4000000 in
theorem printC_s (b b2 : Bool) (l : List Pt) (h : (partsErr l).2 = 0) : Ctr Tryz.prog 18 [.sl b 2 (l.map (eP b2))] (fun rr => rr = ⟨.tup [(.v (.string (cpB l))), (.v (.int .i64 0))], []⟩) := by
 obtain ⟨hl, hp⟩ := parts_all h
 have encs := And.intro encs (show ∀ p, ptS p = [(.v (.string (pttB p)))] from fun _ => rfl)
 have cC := checkParts_s b b2 l
 rw [h] at cC
 refine Ctr.of (rs := [.tmp 2, .tmp 3]) Tok true Tryz.func18 rfl rfl rfl rfl (by simp [ofDL]) (fun w0 kp => ?_)
 simp only [↓sx0, sxE, encs, sevalprocAttr]
 refine CallI.fn (cC) (by simp only [sx3, encs, sxR, sevalprocAttr] <;> (try simp) <;> (try rfl)) ?_
 simp only [↓sx0, sxE, encs, sevalprocAttr]
 refine BrW.no (by simp) ?_
 simp only [↓sx0, sxE, encs, sevalprocAttr]
 refine LoopW.comp [6, 17, 18, 19] (by simp only [sx2, encs, sxR, sevalprocAttr] <;> (try simp) <;> (try omega)) ?_
 simp only [sx2, sxR, sevalprocAttr]
 refine LoopW.up Tok (fun k : Nat => [(6, .row 0), (19, (.v (.int .i64 ((k : Int)))))]) (fun k => []) (fun k => []) (fun k => [.own 9 1 ((l.take k).map ptS)]) (fun k => k ≤ l.length) (fun k => l.length - k) (0) (by simp only [sx2, encs, sxR, sevalprocAttr] <;> (try simp) <;> (try omega)) ?_ ?_
 ·exact Nat.zero_le _
 rintro k hk
 simp only [↓sx0, sxE, encs, sevalprocAttr]
 refine BrW.dec (fun hlt => ?_) (fun hlt => ?_)
 ·simp only [↓sx0, sxE, encs, sevalprocAttr]
  have hkl : k < l.length := by omega
  have hpk := hp _ (List.getElem_mem hkl)
  refine IxW.nat hkl ?_
  simp only [↓sx0, sxE, encs, sevalprocAttr]
  refine DrawW.plan Tok mixed (.q 0 <| .q 1 <| .q 2 <| .q 4 <| .q 5 <| .e 3 [5] <| .e 6 [] <| .q 7 <| .q 8 <| .e 9 [] <| .e 10 [] <| .q 11 <| .done) (by kernel_rfl) (by kernel_rfl) ?_
  simp only [↓sx0, sxE, encs, sevalprocAttr]
  refine CallI.fn (markOf_s l[k].kind) (by simp only [sx3, encs, sxR, sevalprocAttr] <;> (try simp) <;> (try rfl)) ?_
  simp only [↓sx0, sxE, encs, sevalprocAttr]
  refine CallI.fn (joinW_s b2 l[k] hpk) (by simp only [sx3, encs, sxR, sevalprocAttr] <;> (try simp) <;> (try rfl)) ?_
  simp only [↓sx0, sxE, encs, sevalprocAttr]
  have z1 := wsB_size hpk
  have z2 : (mkB l[k].kind).size ≤ 2 := mkB_size _
  have z3 : (⟨#[10]⟩ : ByteArray).size = 1 := rfl
  have hsc : (l.take (k + 1)).map ptS = (l.take k).map ptS ++ [[.v (.string (mkB l[k].kind ++ wsB l[k] ++ ⟨#[10]⟩))]] := by rw [List.take_succ_eq_append_getElem hkl, List.map_append]; rfl
  repeat ((with_reducible refine Vc.go ?_ fun _ => ?_); (focus (first | omega | (simp only [InK]; omega) | (simp [ByteArray.size_append, InK] <;> omega))); simp only [↓sx0, sxE, encs, sevalprocAttr])
  refine ⟨k + 1, StLe.auto (by simp only [sx2, encs, sxR, sevalprocAttr] <;> (try simp [hsc, encs]) <;> (try omega)), ?_, ?_⟩
  ·omega
  ·omega
 ·simp only [↓sx0, sxE, encs, sevalprocAttr]
  have hke : k = l.length := by omega
  subst hke
  rw [List.take_length]
  refine CallI.fn (joinC_s false l h) (by simp only [sx3, encs, sxR, sevalprocAttr] <;> (try simp) <;> (try rfl)) ?_
  simp only [↓sx0, sxE, encs, sevalprocAttr]
  refine EndW.fn ?_ ?_ <;> simp only [sx4, encs, kpLL_map, sxR, sevalprocAttr] <;> (try simp) <;> (try omega)
end Go.Proofs.YtgcmppghjfidfaaGreatDoor
/-
 Chapter 8: the forms of marks.
-/
namespace Go.Proofs.YtgcmppghjfidfaaGreatDoor
open Go Go.Vx
set_option maxRecDepth 20000
def plC (f : Nat) : List SV := [.pt true [.clo f []]]
theorem placed_s (f : Nat) : Ctr Tryz.prog 106 [.clo f []] (fun rr => rr = ⟨.clo 107 (plC f), []⟩) := by
 have encs := And.intro encs (show ∀ f, plC f = [.pt true [.clo f []]] from fun _ => rfl)
 refine Ctr.ofB (rs := [.tmp 2]) Tok Tryz.func106 rfl rfl rfl rfl (by simp [ofDL]) (fun w0 kp => ?_)
 simp only [↓sx0, sxE, encs, sevalprocAttr]
 simp only [endY, boxV, boxL, bxPs, bxPs.bx1, bxD, assB, ptB, bxV, bxL, toDL, toD, consO, vD, oneV, dedN, addN, memN, sxL, sx2, encs, sxR, sevalprocAttr]
 exact EndW.fn (by simp only [sx4, encs, kpLL_map, sxR, sevalprocAttr] <;> (try simp) <;> (try omega)) (by simp only [sx4, encs, kpLL_map, sxR, sevalprocAttr] <;> (try simp) <;> (try omega))
def plD (f : Nat) : D := .clo 107 [.pt true [.clo f []]]
def frE : List (List D) := [[.v (.string ⟨#[]⟩), .v .nilFunc], [.v (.string (nmB 1)), plD 109], [.v (.string (nmB 2)), plD 110], [.v (.string (nmB 3)), plD 111], [.v (.string (nmB 4)), plD 112], [.v (.string (nmB 5)), plD 108], [.v (.string (nmB 6)), plD 108], [.v (.string (nmB 7)), .clo 113 []]]
theorem forms_s : Ctr Tryz.prog 73 [] (fun rr => rr = ⟨.sl true 2 frE, []⟩) := by
 have encs := And.intro encs (And.intro (show ∀ f, plC f = [.pt true [.clo f []]] from fun _ => rfl) (show ∀ f, plD f = .clo 107 [.pt true [.clo f []]] from fun _ => rfl))
 refine Ctr.of (rs := [.tmp 0]) Tok true Tryz.func73 rfl rfl rfl rfl (by simp [ofDL]) (fun w0 kp => ?_)
 simp only [↓sx0, sxE, encs, sevalprocAttr]
 refine CallI.fn (placed_s 109) (by simp only [sx3, encs, sxR, sevalprocAttr] <;> (try simp) <;> (try rfl)) ?_
 simp only [↓sx0, sxE, encs, sevalprocAttr]
 refine CallI.fn (placed_s 110) (by simp only [sx3, encs, sxR, sevalprocAttr] <;> (try simp) <;> (try rfl)) ?_
 simp only [↓sx0, sxE, encs, sevalprocAttr]
 refine CallI.fn (placed_s 111) (by simp only [sx3, encs, sxR, sevalprocAttr] <;> (try simp) <;> (try rfl)) ?_
 simp only [↓sx0, sxE, encs, sevalprocAttr]
 refine CallI.fn (placed_s 112) (by simp only [sx3, encs, sxR, sevalprocAttr] <;> (try simp) <;> (try rfl)) ?_
 simp only [↓sx0, sxE, encs, sevalprocAttr]
 refine CallI.fn (placed_s 108) (by simp only [sx3, encs, sxR, sevalprocAttr] <;> (try simp) <;> (try rfl)) ?_
 simp only [↓sx0, sxE, encs, sevalprocAttr]
 refine CallI.fn (placed_s 108) (by simp only [sx3, encs, sxR, sevalprocAttr] <;> (try simp) <;> (try rfl)) ?_
 simp only [↓sx0, sxE, encs, sevalprocAttr]
 refine EndW.fn ?_ ?_ <;> simp only [sx4, encs, kpLL_map, sxR, sevalprocAttr] <;> (try simp) <;> (try omega)
 ·rfl
 ·simp [frE, plD, kpLL, kpL, kpD]
end Go.Proofs.YtgcmppghjfidfaaGreatDoor
/-
 Chapter 8: a mark's text (the program).
-/
namespace Go.Proofs.YtgcmppghjfidfaaGreatDoor
open Go Go.Vx
set_option maxRecDepth 20000
structure Cut (G : Prop) : Prop where
 out : G
theorem cutB {G : Nat → Prop} {A : Prop} (br : Cut (∀ β, G β) → A) (tail : ∀ β, G β) : A := br ⟨tail⟩
/-- the words of a mark. -/
def mkW (m : Mk) : List (List UInt8) :=
 if m.mark = 1 then [(nmB 1).data.toList, Lib.itoa m.part, Lib.itoa m.word, m.old.data.toList]
 else if m.mark = 2 then [(nmB 2).data.toList, Lib.itoa m.part, Lib.itoa m.word, m.new.data.toList]
 else if m.mark = 3 then [(nmB 3).data.toList, Lib.itoa m.part, Lib.itoa m.word, m.old.data.toList, m.new.data.toList]
 else if m.mark = 4 then [(nmB 4).data.toList, Lib.itoa m.part, Lib.itoa m.word]
 else if m.mark = 5 then [(nmB 5).data.toList, Lib.itoa m.part, Lib.itoa m.word, Lib.itoa m.kind]
 else if m.mark = 6 then [(nmB 6).data.toList, Lib.itoa m.part, Lib.itoa m.word, Lib.itoa m.kind]
 else if m.mark = 7 then [(nmB 7).data.toList, Lib.itoa m.part, Lib.itoa m.was, Lib.itoa m.kind]
 else []
def mkT (m : Mk) : List UInt8 := Lib.join (mkW m) [32]
def I64 (n : Int) : Prop := -9223372036854775808 ≤ n ∧ n ≤ 9223372036854775807
def MkI (m : Mk) : Prop := I64 m.part ∧ I64 m.word ∧ I64 m.was ∧ I64 m.kind
theorem frE_eq : frE = [[.v (.string ⟨#[]⟩), .v .nilFunc], [.v (.string (nmB 1)), .clo 107 [.pt true [.clo 109 []]]], [.v (.string (nmB 2)), .clo 107 [.pt true [.clo 110 []]]], [.v (.string (nmB 3)), .clo 107 [.pt true [.clo 111 []]]], [.v (.string (nmB 4)), .clo 107 [.pt true [.clo 112 []]]], [.v (.string (nmB 5)), .clo 107 [.pt true [.clo 108 []]]], [.v (.string (nmB 6)), .clo 107 [.pt true [.clo 108 []]]], [.v (.string (nmB 7)), .clo 113 []]] := rfl
set_option maxHeartbeats 8000000 in
theorem formatMark_s (m : Mk) (hI : MkI m) (ho : m.old.size ≤ 1000) (hn : m.new.size ≤ 1000) : CtrK glob Tryz.prog 43 [mV m] (fun rr => rr = ⟨(.v (.string (bs (mkT m)))), []⟩) := by
 have encs := And.intro encs eW_def
 obtain ⟨k, part, word, old, new, was, kind⟩ := m
 obtain ⟨h1, h2, h3, h4⟩ := hI
 have it_part := itoa_s part h1.1 h1.2
 have it_word := itoa_s word h2.1 h2.2
 have it_was := itoa_s was h3.1 h3.2
 have it_kind := itoa_s kind h4.1 h4.2
 have hwl : ∀ w ∈ mkW ⟨k, part, word, old, new, was, kind⟩, w.length ≤ 1000 := fun w hw => by
  have l1 := itoa_len h1; have l2 := itoa_len h2; have l3 := itoa_len h3; have l4 := itoa_len h4
  have lo : old.data.toList.length ≤ 1000 := ho
  have ln : new.data.toList.length ≤ 1000 := hn
  have hb : ∀ j, (nmB j).data.toList.length ≤ 1000 := fun j => by unfold nmB; split <;> decide
  unfold mkW at hw
  repeat' split at hw
  all_goals (simp only [List.mem_cons, List.not_mem_nil, or_false] at hw)
  all_goals (first | (rcases hw with rfl | rfl | rfl | rfl | rfl) | (rcases hw with rfl | rfl | rfl | rfl) | (rcases hw with rfl | rfl | rfl) | exact hw.elim)
  all_goals (first | exact hb _ | exact lo | exact ln | exact Nat.le_trans l1 (by decide) | exact Nat.le_trans l2 (by decide) | exact Nat.le_trans l3 (by decide) | exact Nat.le_trans l4 (by decide))
 refine CtrK.of (rs := [.tmp 2]) Tok true Tryz.func43 rfl rfl rfl rfl (by simp [ofDL]) (fun w0 kp hgl => ?_)
 simp only [↓sx0, sxE, encs, sevalprocAttr]
 refine CallI.fn (within_s k 1 7) (by simp only [sx3, encs, sxR, sevalprocAttr] <;> (try simp) <;> (try rfl)) ?_
 simp only [↓sx0, sxE, encs, sevalprocAttr]
 by_cases hk : 1 ≤ k ∧ k ≤ 7
 ·have h7 : k = 1 ∨ k = 2 ∨ k = 3 ∨ k = 4 ∨ k = 5 ∨ k = 6 ∨ k = 7 := by omega
  refine BrW.yes hk ?_
  rcases h7 with rfl | rfl | rfl | rfl | rfl | rfl | rfl
  ·have hW : mkW ⟨1, part, word, old, new, was, kind⟩ = [(nmB 1).data.toList, Lib.itoa part, Lib.itoa word, old.data.toList] := rfl
   apply @cutB _ _ ?br ?tail
   case br =>
    intro hcut
    simp only [↓sx0, sxE, encs, sevalprocAttr]
    refine DrawW.plan Tok mixed (.q 1 <| .q 2 <| .e2 0 [2] (.q 3 <| .q 4 <| .e 5 [2, 4] <| .e 6 [] <| .done) 5 [2] (.e 0 [2] <| .q 3 <| .q 4 <| .e 6 [] <| .done)) (by kernel_rfl) (by kernel_rfl) ?_
    simp only [↓sx0, sxE, encs, sevalprocAttr]
    repeat' (first | (with_reducible refine And.intro ?_ ?_) | ((with_reducible refine Vc.go ?_ fun _ => ?_); (focus (first | trivial | omega | (simp only [InK]; omega) | (simp [InK] <;> omega))); (try simp only [↓sx0, sxE, encs, sevalprocAttr])) | (refine CallI.fn (forms_s) ?_ ?_; (focus ((simp only [sx3, encs, sxR, sevalprocAttr] <;> (try simp) <;> (try rfl)); done)); (try simp only [↓sx0, sxE, encs, sevalprocAttr])))
    all_goals (
     skip
     refine ⟨by decide, _, by rw [frE_eq]; rfl, ?_⟩
     simp only [↓sx0, sxE, encs, sevalprocAttr]
     refine CallI.bxa 0 (by simp) fun β => ?_
     refine CallI.inlG (rs := [.tmp 3]) Tok (fun h => by first | cases h; done | rfl) Tryz.func107 rfl rfl rfl rfl (by simp) (fun ρ σ μ fr lp => ?_) (by refine ⟨_, ?_, rfl⟩; rfl)
     simp only [↓sx0, sxE, encs, sevalprocAttr]
     refine DrawW.plan Tok mixed (.q 0 <| .q 1 <| .q 2 <| .q 3 <| .q 4 <| .q 5 <| .q 6 <| .q 7 <| .q 9 <| .q 10 <| .e2 8 [9] (.e 11 [] <| .e 12 [] <| .q 13 <| .done) 11 [] (.e 8 [9] <| .e 12 [] <| .q 13 <| .done)) (by kernel_rfl) (by kernel_rfl) ?_
     simp only [↓sx0, sxE, encs, sevalprocAttr]
     refine ⟨?_, ?_⟩
     all_goals (
      skip
      refine CallI.inlG (rs := [.tmp 2]) Tok (fun h => by first | cases h; done | rfl) Tryz.func109 rfl rfl rfl rfl (by simp) (fun ρ σ μ fr lp => ?_) (by refine ⟨_, ?_, rfl⟩; rfl)
      simp only [↓sx0, sxE, encs, sevalprocAttr]
      repeat ((with_reducible refine Vc.go ?_ fun _ => ?_); (focus (first | omega | (simp only [InK]; omega) | (simp [InK] <;> omega))); simp only [↓sx0, sxE, encs, sevalprocAttr])
      refine LoopW.comp [4, 23, 24, 25, 1000000] (by simp only [sx2, encs, sxR, sevalprocAttr] <;> (try simp) <;> (try omega)) ?_
      simp only [sx2, sxR, sevalprocAttr]
      exact hcut.out β ) )
   case tail =>
    intro β
    skip
    refine LoopW.comp [4, 23, 24, 25, 1000000, 2000000] (by simp only [sx2, encs, sxR, sevalprocAttr] <;> (try simp) <;> (try omega)) ?_
    simp only [sx2, sxR, sevalprocAttr]
    refine LoopW.up Tok (fun k : Nat => [(4, .row 0), (25, (.v (.int .i64 ((k : Int)))))]) (fun k => []) (fun k => [(0, ((mkW ⟨1, part, word, old, new, was, kind⟩).take (k + 1)).map eW)]) (fun k => []) (fun k => k ≤ 3) (fun k => 3 - k) (0) (by simp only [sx2, encs, sxR, sevalprocAttr] <;> (try simp [hW, bs_data, encs]) <;> (try omega)) ?_ ?_
    ·omega
    rintro k hk
    simp only [↓sx0, sxE, encs, sevalprocAttr]
    refine BrW.dec (fun hlt => ?_) (fun hlt => ?_)
    ·have hc : k = 0 ∨ k = 1 ∨ k = 2 := by omega
     rcases hc with rfl | rfl | rfl
     ·simp only [↓sx0, sxE, encs, sevalprocAttr]
      repeat ((with_reducible refine Vc.go ?_ fun _ => ?_); (focus (first | omega | (simp only [InK]; omega) | (simp [InK] <;> omega))); simp only [↓sx0, sxE, encs, sevalprocAttr])
      refine ⟨by decide, _, rfl, ?_⟩
      simp only [↓sx0, sxE, encs, sevalprocAttr]
      refine CallI.fnK (it_part) glob_ok hgl rfl (by simp only [sx3, encs, sxR, sevalprocAttr] <;> (try simp) <;> (try rfl)) ?_
      simp only [↓sx0, sxE, encs, sevalprocAttr]
      repeat ((with_reducible refine Vc.go ?_ fun _ => ?_); (focus (first | omega | (simp only [InK]; omega) | (simp [InK] <;> omega))); simp only [↓sx0, sxE, encs, sevalprocAttr])
      refine ⟨1, StLe.auto (by simp only [sx2, encs, sxR, sevalprocAttr] <;> (try simp [hW, eW, bs, bs_data, encs]) <;> (try omega)), ?_, ?_⟩
      all_goals omega
     ·simp only [↓sx0, sxE, encs, sevalprocAttr]
      repeat ((with_reducible refine Vc.go ?_ fun _ => ?_); (focus (first | omega | (simp only [InK]; omega) | (simp [InK] <;> omega))); simp only [↓sx0, sxE, encs, sevalprocAttr])
      refine ⟨by decide, _, rfl, ?_⟩
      simp only [↓sx0, sxE, encs, sevalprocAttr]
      refine CallI.fnK (it_word) glob_ok hgl rfl (by simp only [sx3, encs, sxR, sevalprocAttr] <;> (try simp) <;> (try rfl)) ?_
      simp only [↓sx0, sxE, encs, sevalprocAttr]
      repeat ((with_reducible refine Vc.go ?_ fun _ => ?_); (focus (first | omega | (simp only [InK]; omega) | (simp [InK] <;> omega))); simp only [↓sx0, sxE, encs, sevalprocAttr])
      refine ⟨2, StLe.auto (by simp only [sx2, encs, sxR, sevalprocAttr] <;> (try simp [hW, eW, bs, bs_data, encs]) <;> (try omega)), ?_, ?_⟩
      all_goals omega
     ·simp only [↓sx0, sxE, encs, sevalprocAttr]
      repeat ((with_reducible refine Vc.go ?_ fun _ => ?_); (focus (first | omega | (simp only [InK]; omega) | (simp [InK] <;> omega))); simp only [↓sx0, sxE, encs, sevalprocAttr])
      refine ⟨by decide, _, rfl, ?_⟩
      simp only [↓sx0, sxE, encs, sevalprocAttr]
      repeat ((with_reducible refine Vc.go ?_ fun _ => ?_); (focus (first | omega | (simp only [InK]; omega) | (simp [InK] <;> omega))); simp only [↓sx0, sxE, encs, sevalprocAttr])
      refine ⟨3, StLe.auto (by simp only [sx2, encs, sxR, sevalprocAttr] <;> (try simp [hW, eW, bs, bs_data, encs]) <;> (try omega)), ?_, ?_⟩
      all_goals omega
    ·have hke : k = 3 := by omega
     subst hke
     have hjn := join_T false (mkW ⟨1, part, word, old, new, was, kind⟩) (by rw [hW]; simp) (by
      have := join_len (mkW ⟨1, part, word, old, new, was, kind⟩) 1000 hwl
      rw [hW] at this ⊢
      simp only [List.length_cons, List.length_nil] at this
      omega)
     rw [show (mkW ⟨1, part, word, old, new, was, kind⟩).take (3 + 1) = mkW ⟨1, part, word, old, new, was, kind⟩ from rfl]
     simp only [↓sx0, sxE, encs, sevalprocAttr]
     refine CallI.fn (hjn) (by simp only [sx3, encs, sxR, sevalprocAttr] <;> (try simp) <;> (try rfl)) ?_
     simp only [↓sx0, sxE, encs, sevalprocAttr]
     refine EndW.fn ?_ ?_ <;> simp only [sx4, encs, kpLL_map, sxR, sevalprocAttr] <;> (try simp [mkT]) <;> (try omega)
  ·have hW : mkW ⟨2, part, word, old, new, was, kind⟩ = [(nmB 2).data.toList, Lib.itoa part, Lib.itoa word, new.data.toList] := rfl
   apply @cutB _ _ ?br ?tail
   case br =>
    intro hcut
    simp only [↓sx0, sxE, encs, sevalprocAttr]
    refine DrawW.plan Tok mixed (.q 1 <| .q 2 <| .e2 0 [2] (.q 3 <| .q 4 <| .e 5 [2, 4] <| .e 6 [] <| .done) 5 [2] (.e 0 [2] <| .q 3 <| .q 4 <| .e 6 [] <| .done)) (by kernel_rfl) (by kernel_rfl) ?_
    simp only [↓sx0, sxE, encs, sevalprocAttr]
    repeat' (first | (with_reducible refine And.intro ?_ ?_) | ((with_reducible refine Vc.go ?_ fun _ => ?_); (focus (first | trivial | omega | (simp only [InK]; omega) | (simp [InK] <;> omega))); (try simp only [↓sx0, sxE, encs, sevalprocAttr])) | (refine CallI.fn (forms_s) ?_ ?_; (focus ((simp only [sx3, encs, sxR, sevalprocAttr] <;> (try simp) <;> (try rfl)); done)); (try simp only [↓sx0, sxE, encs, sevalprocAttr])))
    all_goals (
     skip
     refine ⟨by decide, _, by rw [frE_eq]; rfl, ?_⟩
     simp only [↓sx0, sxE, encs, sevalprocAttr]
     refine CallI.bxa 0 (by simp) fun β => ?_
     refine CallI.inlG (rs := [.tmp 3]) Tok (fun h => by first | cases h; done | rfl) Tryz.func107 rfl rfl rfl rfl (by simp) (fun ρ σ μ fr lp => ?_) (by refine ⟨_, ?_, rfl⟩; rfl)
     simp only [↓sx0, sxE, encs, sevalprocAttr]
     refine DrawW.plan Tok mixed (.q 0 <| .q 1 <| .q 2 <| .q 3 <| .q 4 <| .q 5 <| .q 6 <| .q 7 <| .q 9 <| .q 10 <| .e2 8 [9] (.e 11 [] <| .e 12 [] <| .q 13 <| .done) 11 [] (.e 8 [9] <| .e 12 [] <| .q 13 <| .done)) (by kernel_rfl) (by kernel_rfl) ?_
     simp only [↓sx0, sxE, encs, sevalprocAttr]
     refine ⟨?_, ?_⟩
     all_goals (
      skip
      refine CallI.inlG (rs := [.tmp 2]) Tok (fun h => by first | cases h; done | rfl) Tryz.func110 rfl rfl rfl rfl (by simp) (fun ρ σ μ fr lp => ?_) (by refine ⟨_, ?_, rfl⟩; rfl)
      simp only [↓sx0, sxE, encs, sevalprocAttr]
      repeat ((with_reducible refine Vc.go ?_ fun _ => ?_); (focus (first | omega | (simp only [InK]; omega) | (simp [InK] <;> omega))); simp only [↓sx0, sxE, encs, sevalprocAttr])
      refine LoopW.comp [4, 23, 24, 25, 1000000] (by simp only [sx2, encs, sxR, sevalprocAttr] <;> (try simp) <;> (try omega)) ?_
      simp only [sx2, sxR, sevalprocAttr]
      exact hcut.out β ) )
   case tail =>
    intro β
    skip
    refine LoopW.comp [4, 23, 24, 25, 1000000, 2000000] (by simp only [sx2, encs, sxR, sevalprocAttr] <;> (try simp) <;> (try omega)) ?_
    simp only [sx2, sxR, sevalprocAttr]
    refine LoopW.up Tok (fun k : Nat => [(4, .row 0), (25, (.v (.int .i64 ((k : Int)))))]) (fun k => []) (fun k => [(0, ((mkW ⟨2, part, word, old, new, was, kind⟩).take (k + 1)).map eW)]) (fun k => []) (fun k => k ≤ 3) (fun k => 3 - k) (0) (by simp only [sx2, encs, sxR, sevalprocAttr] <;> (try simp [hW, bs_data, encs]) <;> (try omega)) ?_ ?_
    ·omega
    rintro k hk
    simp only [↓sx0, sxE, encs, sevalprocAttr]
    refine BrW.dec (fun hlt => ?_) (fun hlt => ?_)
    ·have hc : k = 0 ∨ k = 1 ∨ k = 2 := by omega
     rcases hc with rfl | rfl | rfl
     ·simp only [↓sx0, sxE, encs, sevalprocAttr]
      repeat ((with_reducible refine Vc.go ?_ fun _ => ?_); (focus (first | omega | (simp only [InK]; omega) | (simp [InK] <;> omega))); simp only [↓sx0, sxE, encs, sevalprocAttr])
      refine ⟨by decide, _, rfl, ?_⟩
      simp only [↓sx0, sxE, encs, sevalprocAttr]
      refine CallI.fnK (it_part) glob_ok hgl rfl (by simp only [sx3, encs, sxR, sevalprocAttr] <;> (try simp) <;> (try rfl)) ?_
      simp only [↓sx0, sxE, encs, sevalprocAttr]
      repeat ((with_reducible refine Vc.go ?_ fun _ => ?_); (focus (first | omega | (simp only [InK]; omega) | (simp [InK] <;> omega))); simp only [↓sx0, sxE, encs, sevalprocAttr])
      refine ⟨1, StLe.auto (by simp only [sx2, encs, sxR, sevalprocAttr] <;> (try simp [hW, eW, bs, bs_data, encs]) <;> (try omega)), ?_, ?_⟩
      all_goals omega
     ·simp only [↓sx0, sxE, encs, sevalprocAttr]
      repeat ((with_reducible refine Vc.go ?_ fun _ => ?_); (focus (first | omega | (simp only [InK]; omega) | (simp [InK] <;> omega))); simp only [↓sx0, sxE, encs, sevalprocAttr])
      refine ⟨by decide, _, rfl, ?_⟩
      simp only [↓sx0, sxE, encs, sevalprocAttr]
      refine CallI.fnK (it_word) glob_ok hgl rfl (by simp only [sx3, encs, sxR, sevalprocAttr] <;> (try simp) <;> (try rfl)) ?_
      simp only [↓sx0, sxE, encs, sevalprocAttr]
      repeat ((with_reducible refine Vc.go ?_ fun _ => ?_); (focus (first | omega | (simp only [InK]; omega) | (simp [InK] <;> omega))); simp only [↓sx0, sxE, encs, sevalprocAttr])
      refine ⟨2, StLe.auto (by simp only [sx2, encs, sxR, sevalprocAttr] <;> (try simp [hW, eW, bs, bs_data, encs]) <;> (try omega)), ?_, ?_⟩
      all_goals omega
     ·simp only [↓sx0, sxE, encs, sevalprocAttr]
      repeat ((with_reducible refine Vc.go ?_ fun _ => ?_); (focus (first | omega | (simp only [InK]; omega) | (simp [InK] <;> omega))); simp only [↓sx0, sxE, encs, sevalprocAttr])
      refine ⟨by decide, _, rfl, ?_⟩
      simp only [↓sx0, sxE, encs, sevalprocAttr]
      repeat ((with_reducible refine Vc.go ?_ fun _ => ?_); (focus (first | omega | (simp only [InK]; omega) | (simp [InK] <;> omega))); simp only [↓sx0, sxE, encs, sevalprocAttr])
      refine ⟨3, StLe.auto (by simp only [sx2, encs, sxR, sevalprocAttr] <;> (try simp [hW, eW, bs, bs_data, encs]) <;> (try omega)), ?_, ?_⟩
      all_goals omega
    ·have hke : k = 3 := by omega
     subst hke
     have hjn := join_T false (mkW ⟨2, part, word, old, new, was, kind⟩) (by rw [hW]; simp) (by
      have := join_len (mkW ⟨2, part, word, old, new, was, kind⟩) 1000 hwl
      rw [hW] at this ⊢
      simp only [List.length_cons, List.length_nil] at this
      omega)
     rw [show (mkW ⟨2, part, word, old, new, was, kind⟩).take (3 + 1) = mkW ⟨2, part, word, old, new, was, kind⟩ from rfl]
     simp only [↓sx0, sxE, encs, sevalprocAttr]
     refine CallI.fn (hjn) (by simp only [sx3, encs, sxR, sevalprocAttr] <;> (try simp) <;> (try rfl)) ?_
     simp only [↓sx0, sxE, encs, sevalprocAttr]
     refine EndW.fn ?_ ?_ <;> simp only [sx4, encs, kpLL_map, sxR, sevalprocAttr] <;> (try simp [mkT]) <;> (try omega)
  ·have hW : mkW ⟨3, part, word, old, new, was, kind⟩ = [(nmB 3).data.toList, Lib.itoa part, Lib.itoa word, old.data.toList, new.data.toList] := rfl
   apply @cutB _ _ ?br ?tail
   case br =>
    intro hcut
    simp only [↓sx0, sxE, encs, sevalprocAttr]
    refine DrawW.plan Tok mixed (.q 1 <| .q 2 <| .e2 0 [2] (.q 3 <| .q 4 <| .e 5 [2, 4] <| .e 6 [] <| .done) 5 [2] (.e 0 [2] <| .q 3 <| .q 4 <| .e 6 [] <| .done)) (by kernel_rfl) (by kernel_rfl) ?_
    simp only [↓sx0, sxE, encs, sevalprocAttr]
    repeat' (first | (with_reducible refine And.intro ?_ ?_) | ((with_reducible refine Vc.go ?_ fun _ => ?_); (focus (first | trivial | omega | (simp only [InK]; omega) | (simp [InK] <;> omega))); (try simp only [↓sx0, sxE, encs, sevalprocAttr])) | (refine CallI.fn (forms_s) ?_ ?_; (focus ((simp only [sx3, encs, sxR, sevalprocAttr] <;> (try simp) <;> (try rfl)); done)); (try simp only [↓sx0, sxE, encs, sevalprocAttr])))
    all_goals (
     skip
     refine ⟨by decide, _, by rw [frE_eq]; rfl, ?_⟩
     simp only [↓sx0, sxE, encs, sevalprocAttr]
     refine CallI.bxa 0 (by simp) fun β => ?_
     refine CallI.inlG (rs := [.tmp 3]) Tok (fun h => by first | cases h; done | rfl) Tryz.func107 rfl rfl rfl rfl (by simp) (fun ρ σ μ fr lp => ?_) (by refine ⟨_, ?_, rfl⟩; rfl)
     simp only [↓sx0, sxE, encs, sevalprocAttr]
     refine DrawW.plan Tok mixed (.q 0 <| .q 1 <| .q 2 <| .q 3 <| .q 4 <| .q 5 <| .q 6 <| .q 7 <| .q 9 <| .q 10 <| .e2 8 [9] (.e 11 [] <| .e 12 [] <| .q 13 <| .done) 11 [] (.e 8 [9] <| .e 12 [] <| .q 13 <| .done)) (by kernel_rfl) (by kernel_rfl) ?_
     simp only [↓sx0, sxE, encs, sevalprocAttr]
     refine ⟨?_, ?_⟩
     all_goals (
      skip
      refine CallI.inlG (rs := [.tmp 2]) Tok (fun h => by first | cases h; done | rfl) Tryz.func111 rfl rfl rfl rfl (by simp) (fun ρ σ μ fr lp => ?_) (by refine ⟨_, ?_, rfl⟩; rfl)
      simp only [↓sx0, sxE, encs, sevalprocAttr]
      refine DrawW.plan Tok mixed (.q 0 <| .q 1 <| .q 2 <| .q 3 <| .q 4 <| .q 5 <| .q 6 <| .q 7 <| .e 8 [] <| .q 9 <| .done) (by kernel_rfl) (by kernel_rfl) ?_
      simp only [↓sx0, sxE, encs, sevalprocAttr]
      repeat ((with_reducible refine Vc.go ?_ fun _ => ?_); (focus (first | omega | (simp only [InK]; omega) | (simp [InK] <;> omega))); simp only [↓sx0, sxE, encs, sevalprocAttr])
      refine LoopW.comp [4, 23, 24, 25, 1000000] (by simp only [sx2, encs, sxR, sevalprocAttr] <;> (try simp) <;> (try omega)) ?_
      simp only [sx2, sxR, sevalprocAttr]
      exact hcut.out β ) )
   case tail =>
    intro β
    skip
    refine LoopW.comp [4, 23, 24, 25, 1000000, 2000000] (by simp only [sx2, encs, sxR, sevalprocAttr] <;> (try simp) <;> (try omega)) ?_
    simp only [sx2, sxR, sevalprocAttr]
    refine LoopW.up Tok (fun k : Nat => [(4, .row 0), (25, (.v (.int .i64 ((k : Int)))))]) (fun k => []) (fun k => [(0, ((mkW ⟨3, part, word, old, new, was, kind⟩).take (k + 1)).map eW)]) (fun k => []) (fun k => k ≤ 4) (fun k => 4 - k) (0) (by simp only [sx2, encs, sxR, sevalprocAttr] <;> (try simp [hW, bs_data, encs]) <;> (try omega)) ?_ ?_
    ·omega
    rintro k hk
    simp only [↓sx0, sxE, encs, sevalprocAttr]
    refine BrW.dec (fun hlt => ?_) (fun hlt => ?_)
    ·have hc : k = 0 ∨ k = 1 ∨ k = 2 ∨ k = 3 := by omega
     rcases hc with rfl | rfl | rfl | rfl
     ·simp only [↓sx0, sxE, encs, sevalprocAttr]
      repeat ((with_reducible refine Vc.go ?_ fun _ => ?_); (focus (first | omega | (simp only [InK]; omega) | (simp [InK] <;> omega))); simp only [↓sx0, sxE, encs, sevalprocAttr])
      refine ⟨by decide, _, rfl, ?_⟩
      simp only [↓sx0, sxE, encs, sevalprocAttr]
      refine CallI.fnK (it_part) glob_ok hgl rfl (by simp only [sx3, encs, sxR, sevalprocAttr] <;> (try simp) <;> (try rfl)) ?_
      simp only [↓sx0, sxE, encs, sevalprocAttr]
      repeat ((with_reducible refine Vc.go ?_ fun _ => ?_); (focus (first | omega | (simp only [InK]; omega) | (simp [InK] <;> omega))); simp only [↓sx0, sxE, encs, sevalprocAttr])
      refine ⟨1, StLe.auto (by simp only [sx2, encs, sxR, sevalprocAttr] <;> (try simp [hW, eW, bs, bs_data, encs]) <;> (try omega)), ?_, ?_⟩
      all_goals omega
     ·simp only [↓sx0, sxE, encs, sevalprocAttr]
      repeat ((with_reducible refine Vc.go ?_ fun _ => ?_); (focus (first | omega | (simp only [InK]; omega) | (simp [InK] <;> omega))); simp only [↓sx0, sxE, encs, sevalprocAttr])
      refine ⟨by decide, _, rfl, ?_⟩
      simp only [↓sx0, sxE, encs, sevalprocAttr]
      refine CallI.fnK (it_word) glob_ok hgl rfl (by simp only [sx3, encs, sxR, sevalprocAttr] <;> (try simp) <;> (try rfl)) ?_
      simp only [↓sx0, sxE, encs, sevalprocAttr]
      repeat ((with_reducible refine Vc.go ?_ fun _ => ?_); (focus (first | omega | (simp only [InK]; omega) | (simp [InK] <;> omega))); simp only [↓sx0, sxE, encs, sevalprocAttr])
      refine ⟨2, StLe.auto (by simp only [sx2, encs, sxR, sevalprocAttr] <;> (try simp [hW, eW, bs, bs_data, encs]) <;> (try omega)), ?_, ?_⟩
      all_goals omega
     ·simp only [↓sx0, sxE, encs, sevalprocAttr]
      repeat ((with_reducible refine Vc.go ?_ fun _ => ?_); (focus (first | omega | (simp only [InK]; omega) | (simp [InK] <;> omega))); simp only [↓sx0, sxE, encs, sevalprocAttr])
      refine ⟨by decide, _, rfl, ?_⟩
      simp only [↓sx0, sxE, encs, sevalprocAttr]
      repeat ((with_reducible refine Vc.go ?_ fun _ => ?_); (focus (first | omega | (simp only [InK]; omega) | (simp [InK] <;> omega))); simp only [↓sx0, sxE, encs, sevalprocAttr])
      refine ⟨3, StLe.auto (by simp only [sx2, encs, sxR, sevalprocAttr] <;> (try simp [hW, eW, bs, bs_data, encs]) <;> (try omega)), ?_, ?_⟩
      all_goals omega
     ·simp only [↓sx0, sxE, encs, sevalprocAttr]
      repeat ((with_reducible refine Vc.go ?_ fun _ => ?_); (focus (first | omega | (simp only [InK]; omega) | (simp [InK] <;> omega))); simp only [↓sx0, sxE, encs, sevalprocAttr])
      refine ⟨by decide, _, rfl, ?_⟩
      simp only [↓sx0, sxE, encs, sevalprocAttr]
      repeat ((with_reducible refine Vc.go ?_ fun _ => ?_); (focus (first | omega | (simp only [InK]; omega) | (simp [InK] <;> omega))); simp only [↓sx0, sxE, encs, sevalprocAttr])
      refine ⟨4, StLe.auto (by simp only [sx2, encs, sxR, sevalprocAttr] <;> (try simp [hW, eW, bs, bs_data, encs]) <;> (try omega)), ?_, ?_⟩
      all_goals omega
    ·have hke : k = 4 := by omega
     subst hke
     have hjn := join_T false (mkW ⟨3, part, word, old, new, was, kind⟩) (by rw [hW]; simp) (by
      have := join_len (mkW ⟨3, part, word, old, new, was, kind⟩) 1000 hwl
      rw [hW] at this ⊢
      simp only [List.length_cons, List.length_nil] at this
      omega)
     rw [show (mkW ⟨3, part, word, old, new, was, kind⟩).take (4 + 1) = mkW ⟨3, part, word, old, new, was, kind⟩ from rfl]
     simp only [↓sx0, sxE, encs, sevalprocAttr]
     refine CallI.fn (hjn) (by simp only [sx3, encs, sxR, sevalprocAttr] <;> (try simp) <;> (try rfl)) ?_
     simp only [↓sx0, sxE, encs, sevalprocAttr]
     refine EndW.fn ?_ ?_ <;> simp only [sx4, encs, kpLL_map, sxR, sevalprocAttr] <;> (try simp [mkT]) <;> (try omega)
  ·have hW : mkW ⟨4, part, word, old, new, was, kind⟩ = [(nmB 4).data.toList, Lib.itoa part, Lib.itoa word] := rfl
   apply @cutB _ _ ?br ?tail
   case br =>
    intro hcut
    simp only [↓sx0, sxE, encs, sevalprocAttr]
    refine DrawW.plan Tok mixed (.q 1 <| .q 2 <| .e2 0 [2] (.q 3 <| .q 4 <| .e 5 [2, 4] <| .e 6 [] <| .done) 5 [2] (.e 0 [2] <| .q 3 <| .q 4 <| .e 6 [] <| .done)) (by kernel_rfl) (by kernel_rfl) ?_
    simp only [↓sx0, sxE, encs, sevalprocAttr]
    repeat' (first | (with_reducible refine And.intro ?_ ?_) | ((with_reducible refine Vc.go ?_ fun _ => ?_); (focus (first | trivial | omega | (simp only [InK]; omega) | (simp [InK] <;> omega))); (try simp only [↓sx0, sxE, encs, sevalprocAttr])) | (refine CallI.fn (forms_s) ?_ ?_; (focus ((simp only [sx3, encs, sxR, sevalprocAttr] <;> (try simp) <;> (try rfl)); done)); (try simp only [↓sx0, sxE, encs, sevalprocAttr])))
    all_goals (
     skip
     refine ⟨by decide, _, by rw [frE_eq]; rfl, ?_⟩
     simp only [↓sx0, sxE, encs, sevalprocAttr]
     refine CallI.bxa 0 (by simp) fun β => ?_
     refine CallI.inlG (rs := [.tmp 3]) Tok (fun h => by first | cases h; done | rfl) Tryz.func107 rfl rfl rfl rfl (by simp) (fun ρ σ μ fr lp => ?_) (by refine ⟨_, ?_, rfl⟩; rfl)
     simp only [↓sx0, sxE, encs, sevalprocAttr]
     refine DrawW.plan Tok mixed (.q 0 <| .q 1 <| .q 2 <| .q 3 <| .q 4 <| .q 5 <| .q 6 <| .q 7 <| .q 9 <| .q 10 <| .e2 8 [9] (.e 11 [] <| .e 12 [] <| .q 13 <| .done) 11 [] (.e 8 [9] <| .e 12 [] <| .q 13 <| .done)) (by kernel_rfl) (by kernel_rfl) ?_
     simp only [↓sx0, sxE, encs, sevalprocAttr]
     refine ⟨?_, ?_⟩
     all_goals (
      skip
      refine CallI.inlG (rs := [.tmp 2]) Tok (fun h => by first | cases h; done | rfl) Tryz.func112 rfl rfl rfl rfl (by simp) (fun ρ σ μ fr lp => ?_) (by refine ⟨_, ?_, rfl⟩; rfl)
      simp only [↓sx0, sxE, encs, sevalprocAttr]
      repeat ((with_reducible refine Vc.go ?_ fun _ => ?_); (focus (first | omega | (simp only [InK]; omega) | (simp [InK] <;> omega))); simp only [↓sx0, sxE, encs, sevalprocAttr])
      refine LoopW.comp [4, 23, 24, 25, 1000000] (by simp only [sx2, encs, sxR, sevalprocAttr] <;> (try simp) <;> (try omega)) ?_
      simp only [sx2, sxR, sevalprocAttr]
      exact hcut.out β ) )
   case tail =>
    intro β
    skip
    refine LoopW.comp [4, 23, 24, 25, 1000000, 2000000] (by simp only [sx2, encs, sxR, sevalprocAttr] <;> (try simp) <;> (try omega)) ?_
    simp only [sx2, sxR, sevalprocAttr]
    refine LoopW.up Tok (fun k : Nat => [(4, .row 0), (25, (.v (.int .i64 ((k : Int)))))]) (fun k => []) (fun k => [(0, ((mkW ⟨4, part, word, old, new, was, kind⟩).take (k + 1)).map eW)]) (fun k => []) (fun k => k ≤ 2) (fun k => 2 - k) (0) (by simp only [sx2, encs, sxR, sevalprocAttr] <;> (try simp [hW, bs_data, encs]) <;> (try omega)) ?_ ?_
    ·omega
    rintro k hk
    simp only [↓sx0, sxE, encs, sevalprocAttr]
    refine BrW.dec (fun hlt => ?_) (fun hlt => ?_)
    ·have hc : k = 0 ∨ k = 1 := by omega
     rcases hc with rfl | rfl
     ·simp only [↓sx0, sxE, encs, sevalprocAttr]
      repeat ((with_reducible refine Vc.go ?_ fun _ => ?_); (focus (first | omega | (simp only [InK]; omega) | (simp [InK] <;> omega))); simp only [↓sx0, sxE, encs, sevalprocAttr])
      refine ⟨by decide, _, rfl, ?_⟩
      simp only [↓sx0, sxE, encs, sevalprocAttr]
      refine CallI.fnK (it_part) glob_ok hgl rfl (by simp only [sx3, encs, sxR, sevalprocAttr] <;> (try simp) <;> (try rfl)) ?_
      simp only [↓sx0, sxE, encs, sevalprocAttr]
      repeat ((with_reducible refine Vc.go ?_ fun _ => ?_); (focus (first | omega | (simp only [InK]; omega) | (simp [InK] <;> omega))); simp only [↓sx0, sxE, encs, sevalprocAttr])
      refine ⟨1, StLe.auto (by simp only [sx2, encs, sxR, sevalprocAttr] <;> (try simp [hW, eW, bs, bs_data, encs]) <;> (try omega)), ?_, ?_⟩
      all_goals omega
     ·simp only [↓sx0, sxE, encs, sevalprocAttr]
      repeat ((with_reducible refine Vc.go ?_ fun _ => ?_); (focus (first | omega | (simp only [InK]; omega) | (simp [InK] <;> omega))); simp only [↓sx0, sxE, encs, sevalprocAttr])
      refine ⟨by decide, _, rfl, ?_⟩
      simp only [↓sx0, sxE, encs, sevalprocAttr]
      refine CallI.fnK (it_word) glob_ok hgl rfl (by simp only [sx3, encs, sxR, sevalprocAttr] <;> (try simp) <;> (try rfl)) ?_
      simp only [↓sx0, sxE, encs, sevalprocAttr]
      repeat ((with_reducible refine Vc.go ?_ fun _ => ?_); (focus (first | omega | (simp only [InK]; omega) | (simp [InK] <;> omega))); simp only [↓sx0, sxE, encs, sevalprocAttr])
      refine ⟨2, StLe.auto (by simp only [sx2, encs, sxR, sevalprocAttr] <;> (try simp [hW, eW, bs, bs_data, encs]) <;> (try omega)), ?_, ?_⟩
      all_goals omega
    ·have hke : k = 2 := by omega
     subst hke
     have hjn := join_T false (mkW ⟨4, part, word, old, new, was, kind⟩) (by rw [hW]; simp) (by
      have := join_len (mkW ⟨4, part, word, old, new, was, kind⟩) 1000 hwl
      rw [hW] at this ⊢
      simp only [List.length_cons, List.length_nil] at this
      omega)
     rw [show (mkW ⟨4, part, word, old, new, was, kind⟩).take (2 + 1) = mkW ⟨4, part, word, old, new, was, kind⟩ from rfl]
     simp only [↓sx0, sxE, encs, sevalprocAttr]
     refine CallI.fn (hjn) (by simp only [sx3, encs, sxR, sevalprocAttr] <;> (try simp) <;> (try rfl)) ?_
     simp only [↓sx0, sxE, encs, sevalprocAttr]
     refine EndW.fn ?_ ?_ <;> simp only [sx4, encs, kpLL_map, sxR, sevalprocAttr] <;> (try simp [mkT]) <;> (try omega)
  ·have hW : mkW ⟨5, part, word, old, new, was, kind⟩ = [(nmB 5).data.toList, Lib.itoa part, Lib.itoa word, Lib.itoa kind] := rfl
   apply @cutB _ _ ?br ?tail
   case br =>
    intro hcut
    simp only [↓sx0, sxE, encs, sevalprocAttr]
    refine DrawW.plan Tok mixed (.q 1 <| .q 2 <| .e2 0 [2] (.q 3 <| .q 4 <| .e 5 [2, 4] <| .e 6 [] <| .done) 5 [2] (.e 0 [2] <| .q 3 <| .q 4 <| .e 6 [] <| .done)) (by kernel_rfl) (by kernel_rfl) ?_
    simp only [↓sx0, sxE, encs, sevalprocAttr]
    repeat' (first | (with_reducible refine And.intro ?_ ?_) | ((with_reducible refine Vc.go ?_ fun _ => ?_); (focus (first | trivial | omega | (simp only [InK]; omega) | (simp [InK] <;> omega))); (try simp only [↓sx0, sxE, encs, sevalprocAttr])) | (refine CallI.fn (forms_s) ?_ ?_; (focus ((simp only [sx3, encs, sxR, sevalprocAttr] <;> (try simp) <;> (try rfl)); done)); (try simp only [↓sx0, sxE, encs, sevalprocAttr])))
    all_goals (
     skip
     refine ⟨by decide, _, by rw [frE_eq]; rfl, ?_⟩
     simp only [↓sx0, sxE, encs, sevalprocAttr]
     refine CallI.bxa 0 (by simp) fun β => ?_
     refine CallI.inlG (rs := [.tmp 3]) Tok (fun h => by first | cases h; done | rfl) Tryz.func107 rfl rfl rfl rfl (by simp) (fun ρ σ μ fr lp => ?_) (by refine ⟨_, ?_, rfl⟩; rfl)
     simp only [↓sx0, sxE, encs, sevalprocAttr]
     refine DrawW.plan Tok mixed (.q 0 <| .q 1 <| .q 2 <| .q 3 <| .q 4 <| .q 5 <| .q 6 <| .q 7 <| .q 9 <| .q 10 <| .e2 8 [9] (.e 11 [] <| .e 12 [] <| .q 13 <| .done) 11 [] (.e 8 [9] <| .e 12 [] <| .q 13 <| .done)) (by kernel_rfl) (by kernel_rfl) ?_
     simp only [↓sx0, sxE, encs, sevalprocAttr]
     refine ⟨?_, ?_⟩
     all_goals (
      skip
      refine CallI.inlG (rs := [.tmp 2]) Tok (fun h => by first | cases h; done | rfl) Tryz.func108 rfl rfl rfl rfl (by simp) (fun ρ σ μ fr lp => ?_) (by refine ⟨_, ?_, rfl⟩; rfl)
      simp only [↓sx0, sxE, encs, sevalprocAttr]
      repeat ((with_reducible refine Vc.go ?_ fun _ => ?_); (focus (first | omega | (simp only [InK]; omega) | (simp [InK] <;> omega))); simp only [↓sx0, sxE, encs, sevalprocAttr])
      refine LoopW.comp [4, 23, 24, 25, 1000000] (by simp only [sx2, encs, sxR, sevalprocAttr] <;> (try simp) <;> (try omega)) ?_
      simp only [sx2, sxR, sevalprocAttr]
      exact hcut.out β ) )
   case tail =>
    intro β
    skip
    refine LoopW.comp [4, 23, 24, 25, 1000000, 2000000] (by simp only [sx2, encs, sxR, sevalprocAttr] <;> (try simp) <;> (try omega)) ?_
    simp only [sx2, sxR, sevalprocAttr]
    refine LoopW.up Tok (fun k : Nat => [(4, .row 0), (25, (.v (.int .i64 ((k : Int)))))]) (fun k => []) (fun k => [(0, ((mkW ⟨5, part, word, old, new, was, kind⟩).take (k + 1)).map eW)]) (fun k => []) (fun k => k ≤ 3) (fun k => 3 - k) (0) (by simp only [sx2, encs, sxR, sevalprocAttr] <;> (try simp [hW, bs_data, encs]) <;> (try omega)) ?_ ?_
    ·omega
    rintro k hk
    simp only [↓sx0, sxE, encs, sevalprocAttr]
    refine BrW.dec (fun hlt => ?_) (fun hlt => ?_)
    ·have hc : k = 0 ∨ k = 1 ∨ k = 2 := by omega
     rcases hc with rfl | rfl | rfl
     ·simp only [↓sx0, sxE, encs, sevalprocAttr]
      repeat ((with_reducible refine Vc.go ?_ fun _ => ?_); (focus (first | omega | (simp only [InK]; omega) | (simp [InK] <;> omega))); simp only [↓sx0, sxE, encs, sevalprocAttr])
      refine ⟨by decide, _, rfl, ?_⟩
      simp only [↓sx0, sxE, encs, sevalprocAttr]
      refine CallI.fnK (it_part) glob_ok hgl rfl (by simp only [sx3, encs, sxR, sevalprocAttr] <;> (try simp) <;> (try rfl)) ?_
      simp only [↓sx0, sxE, encs, sevalprocAttr]
      repeat ((with_reducible refine Vc.go ?_ fun _ => ?_); (focus (first | omega | (simp only [InK]; omega) | (simp [InK] <;> omega))); simp only [↓sx0, sxE, encs, sevalprocAttr])
      refine ⟨1, StLe.auto (by simp only [sx2, encs, sxR, sevalprocAttr] <;> (try simp [hW, eW, bs, bs_data, encs]) <;> (try omega)), ?_, ?_⟩
      all_goals omega
     ·simp only [↓sx0, sxE, encs, sevalprocAttr]
      repeat ((with_reducible refine Vc.go ?_ fun _ => ?_); (focus (first | omega | (simp only [InK]; omega) | (simp [InK] <;> omega))); simp only [↓sx0, sxE, encs, sevalprocAttr])
      refine ⟨by decide, _, rfl, ?_⟩
      simp only [↓sx0, sxE, encs, sevalprocAttr]
      refine CallI.fnK (it_word) glob_ok hgl rfl (by simp only [sx3, encs, sxR, sevalprocAttr] <;> (try simp) <;> (try rfl)) ?_
      simp only [↓sx0, sxE, encs, sevalprocAttr]
      repeat ((with_reducible refine Vc.go ?_ fun _ => ?_); (focus (first | omega | (simp only [InK]; omega) | (simp [InK] <;> omega))); simp only [↓sx0, sxE, encs, sevalprocAttr])
      refine ⟨2, StLe.auto (by simp only [sx2, encs, sxR, sevalprocAttr] <;> (try simp [hW, eW, bs, bs_data, encs]) <;> (try omega)), ?_, ?_⟩
      all_goals omega
     ·simp only [↓sx0, sxE, encs, sevalprocAttr]
      repeat ((with_reducible refine Vc.go ?_ fun _ => ?_); (focus (first | omega | (simp only [InK]; omega) | (simp [InK] <;> omega))); simp only [↓sx0, sxE, encs, sevalprocAttr])
      refine ⟨by decide, _, rfl, ?_⟩
      simp only [↓sx0, sxE, encs, sevalprocAttr]
      refine CallI.fnK (it_kind) glob_ok hgl rfl (by simp only [sx3, encs, sxR, sevalprocAttr] <;> (try simp) <;> (try rfl)) ?_
      simp only [↓sx0, sxE, encs, sevalprocAttr]
      repeat ((with_reducible refine Vc.go ?_ fun _ => ?_); (focus (first | omega | (simp only [InK]; omega) | (simp [InK] <;> omega))); simp only [↓sx0, sxE, encs, sevalprocAttr])
      refine ⟨3, StLe.auto (by simp only [sx2, encs, sxR, sevalprocAttr] <;> (try simp [hW, eW, bs, bs_data, encs]) <;> (try omega)), ?_, ?_⟩
      all_goals omega
    ·have hke : k = 3 := by omega
     subst hke
     have hjn := join_T false (mkW ⟨5, part, word, old, new, was, kind⟩) (by rw [hW]; simp) (by
      have := join_len (mkW ⟨5, part, word, old, new, was, kind⟩) 1000 hwl
      rw [hW] at this ⊢
      simp only [List.length_cons, List.length_nil] at this
      omega)
     rw [show (mkW ⟨5, part, word, old, new, was, kind⟩).take (3 + 1) = mkW ⟨5, part, word, old, new, was, kind⟩ from rfl]
     simp only [↓sx0, sxE, encs, sevalprocAttr]
     refine CallI.fn (hjn) (by simp only [sx3, encs, sxR, sevalprocAttr] <;> (try simp) <;> (try rfl)) ?_
     simp only [↓sx0, sxE, encs, sevalprocAttr]
     refine EndW.fn ?_ ?_ <;> simp only [sx4, encs, kpLL_map, sxR, sevalprocAttr] <;> (try simp [mkT]) <;> (try omega)
  ·have hW : mkW ⟨6, part, word, old, new, was, kind⟩ = [(nmB 6).data.toList, Lib.itoa part, Lib.itoa word, Lib.itoa kind] := rfl
   apply @cutB _ _ ?br ?tail
   case br =>
    intro hcut
    simp only [↓sx0, sxE, encs, sevalprocAttr]
    refine DrawW.plan Tok mixed (.q 1 <| .q 2 <| .e2 0 [2] (.q 3 <| .q 4 <| .e 5 [2, 4] <| .e 6 [] <| .done) 5 [2] (.e 0 [2] <| .q 3 <| .q 4 <| .e 6 [] <| .done)) (by kernel_rfl) (by kernel_rfl) ?_
    simp only [↓sx0, sxE, encs, sevalprocAttr]
    repeat' (first | (with_reducible refine And.intro ?_ ?_) | ((with_reducible refine Vc.go ?_ fun _ => ?_); (focus (first | trivial | omega | (simp only [InK]; omega) | (simp [InK] <;> omega))); (try simp only [↓sx0, sxE, encs, sevalprocAttr])) | (refine CallI.fn (forms_s) ?_ ?_; (focus ((simp only [sx3, encs, sxR, sevalprocAttr] <;> (try simp) <;> (try rfl)); done)); (try simp only [↓sx0, sxE, encs, sevalprocAttr])))
    all_goals (
     skip
     refine ⟨by decide, _, by rw [frE_eq]; rfl, ?_⟩
     simp only [↓sx0, sxE, encs, sevalprocAttr]
     refine CallI.bxa 0 (by simp) fun β => ?_
     refine CallI.inlG (rs := [.tmp 3]) Tok (fun h => by first | cases h; done | rfl) Tryz.func107 rfl rfl rfl rfl (by simp) (fun ρ σ μ fr lp => ?_) (by refine ⟨_, ?_, rfl⟩; rfl)
     simp only [↓sx0, sxE, encs, sevalprocAttr]
     refine DrawW.plan Tok mixed (.q 0 <| .q 1 <| .q 2 <| .q 3 <| .q 4 <| .q 5 <| .q 6 <| .q 7 <| .q 9 <| .q 10 <| .e2 8 [9] (.e 11 [] <| .e 12 [] <| .q 13 <| .done) 11 [] (.e 8 [9] <| .e 12 [] <| .q 13 <| .done)) (by kernel_rfl) (by kernel_rfl) ?_
     simp only [↓sx0, sxE, encs, sevalprocAttr]
     refine ⟨?_, ?_⟩
     all_goals (
      skip
      refine CallI.inlG (rs := [.tmp 2]) Tok (fun h => by first | cases h; done | rfl) Tryz.func108 rfl rfl rfl rfl (by simp) (fun ρ σ μ fr lp => ?_) (by refine ⟨_, ?_, rfl⟩; rfl)
      simp only [↓sx0, sxE, encs, sevalprocAttr]
      repeat ((with_reducible refine Vc.go ?_ fun _ => ?_); (focus (first | omega | (simp only [InK]; omega) | (simp [InK] <;> omega))); simp only [↓sx0, sxE, encs, sevalprocAttr])
      refine LoopW.comp [4, 23, 24, 25, 1000000] (by simp only [sx2, encs, sxR, sevalprocAttr] <;> (try simp) <;> (try omega)) ?_
      simp only [sx2, sxR, sevalprocAttr]
      exact hcut.out β ) )
   case tail =>
    intro β
    skip
    refine LoopW.comp [4, 23, 24, 25, 1000000, 2000000] (by simp only [sx2, encs, sxR, sevalprocAttr] <;> (try simp) <;> (try omega)) ?_
    simp only [sx2, sxR, sevalprocAttr]
    refine LoopW.up Tok (fun k : Nat => [(4, .row 0), (25, (.v (.int .i64 ((k : Int)))))]) (fun k => []) (fun k => [(0, ((mkW ⟨6, part, word, old, new, was, kind⟩).take (k + 1)).map eW)]) (fun k => []) (fun k => k ≤ 3) (fun k => 3 - k) (0) (by simp only [sx2, encs, sxR, sevalprocAttr] <;> (try simp [hW, bs_data, encs]) <;> (try omega)) ?_ ?_
    ·omega
    rintro k hk
    simp only [↓sx0, sxE, encs, sevalprocAttr]
    refine BrW.dec (fun hlt => ?_) (fun hlt => ?_)
    ·have hc : k = 0 ∨ k = 1 ∨ k = 2 := by omega
     rcases hc with rfl | rfl | rfl
     ·simp only [↓sx0, sxE, encs, sevalprocAttr]
      repeat ((with_reducible refine Vc.go ?_ fun _ => ?_); (focus (first | omega | (simp only [InK]; omega) | (simp [InK] <;> omega))); simp only [↓sx0, sxE, encs, sevalprocAttr])
      refine ⟨by decide, _, rfl, ?_⟩
      simp only [↓sx0, sxE, encs, sevalprocAttr]
      refine CallI.fnK (it_part) glob_ok hgl rfl (by simp only [sx3, encs, sxR, sevalprocAttr] <;> (try simp) <;> (try rfl)) ?_
      simp only [↓sx0, sxE, encs, sevalprocAttr]
      repeat ((with_reducible refine Vc.go ?_ fun _ => ?_); (focus (first | omega | (simp only [InK]; omega) | (simp [InK] <;> omega))); simp only [↓sx0, sxE, encs, sevalprocAttr])
      refine ⟨1, StLe.auto (by simp only [sx2, encs, sxR, sevalprocAttr] <;> (try simp [hW, eW, bs, bs_data, encs]) <;> (try omega)), ?_, ?_⟩
      all_goals omega
     ·simp only [↓sx0, sxE, encs, sevalprocAttr]
      repeat ((with_reducible refine Vc.go ?_ fun _ => ?_); (focus (first | omega | (simp only [InK]; omega) | (simp [InK] <;> omega))); simp only [↓sx0, sxE, encs, sevalprocAttr])
      refine ⟨by decide, _, rfl, ?_⟩
      simp only [↓sx0, sxE, encs, sevalprocAttr]
      refine CallI.fnK (it_word) glob_ok hgl rfl (by simp only [sx3, encs, sxR, sevalprocAttr] <;> (try simp) <;> (try rfl)) ?_
      simp only [↓sx0, sxE, encs, sevalprocAttr]
      repeat ((with_reducible refine Vc.go ?_ fun _ => ?_); (focus (first | omega | (simp only [InK]; omega) | (simp [InK] <;> omega))); simp only [↓sx0, sxE, encs, sevalprocAttr])
      refine ⟨2, StLe.auto (by simp only [sx2, encs, sxR, sevalprocAttr] <;> (try simp [hW, eW, bs, bs_data, encs]) <;> (try omega)), ?_, ?_⟩
      all_goals omega
     ·simp only [↓sx0, sxE, encs, sevalprocAttr]
      repeat ((with_reducible refine Vc.go ?_ fun _ => ?_); (focus (first | omega | (simp only [InK]; omega) | (simp [InK] <;> omega))); simp only [↓sx0, sxE, encs, sevalprocAttr])
      refine ⟨by decide, _, rfl, ?_⟩
      simp only [↓sx0, sxE, encs, sevalprocAttr]
      refine CallI.fnK (it_kind) glob_ok hgl rfl (by simp only [sx3, encs, sxR, sevalprocAttr] <;> (try simp) <;> (try rfl)) ?_
      simp only [↓sx0, sxE, encs, sevalprocAttr]
      repeat ((with_reducible refine Vc.go ?_ fun _ => ?_); (focus (first | omega | (simp only [InK]; omega) | (simp [InK] <;> omega))); simp only [↓sx0, sxE, encs, sevalprocAttr])
      refine ⟨3, StLe.auto (by simp only [sx2, encs, sxR, sevalprocAttr] <;> (try simp [hW, eW, bs, bs_data, encs]) <;> (try omega)), ?_, ?_⟩
      all_goals omega
    ·have hke : k = 3 := by omega
     subst hke
     have hjn := join_T false (mkW ⟨6, part, word, old, new, was, kind⟩) (by rw [hW]; simp) (by
      have := join_len (mkW ⟨6, part, word, old, new, was, kind⟩) 1000 hwl
      rw [hW] at this ⊢
      simp only [List.length_cons, List.length_nil] at this
      omega)
     rw [show (mkW ⟨6, part, word, old, new, was, kind⟩).take (3 + 1) = mkW ⟨6, part, word, old, new, was, kind⟩ from rfl]
     simp only [↓sx0, sxE, encs, sevalprocAttr]
     refine CallI.fn (hjn) (by simp only [sx3, encs, sxR, sevalprocAttr] <;> (try simp) <;> (try rfl)) ?_
     simp only [↓sx0, sxE, encs, sevalprocAttr]
     refine EndW.fn ?_ ?_ <;> simp only [sx4, encs, kpLL_map, sxR, sevalprocAttr] <;> (try simp [mkT]) <;> (try omega)
  ·have hW : mkW ⟨7, part, word, old, new, was, kind⟩ = [(nmB 7).data.toList, Lib.itoa part, Lib.itoa was, Lib.itoa kind] := rfl
   apply @cutB _ _ ?br ?tail
   case br =>
    intro hcut
    simp only [↓sx0, sxE, encs, sevalprocAttr]
    refine DrawW.plan Tok mixed (.q 1 <| .q 2 <| .e2 0 [2] (.q 3 <| .q 4 <| .e 5 [2, 4] <| .e 6 [] <| .done) 5 [2] (.e 0 [2] <| .q 3 <| .q 4 <| .e 6 [] <| .done)) (by kernel_rfl) (by kernel_rfl) ?_
    simp only [↓sx0, sxE, encs, sevalprocAttr]
    repeat' (first | (with_reducible refine And.intro ?_ ?_) | ((with_reducible refine Vc.go ?_ fun _ => ?_); (focus (first | trivial | omega | (simp only [InK]; omega) | (simp [InK] <;> omega))); (try simp only [↓sx0, sxE, encs, sevalprocAttr])) | (refine CallI.fn (forms_s) ?_ ?_; (focus ((simp only [sx3, encs, sxR, sevalprocAttr] <;> (try simp) <;> (try rfl)); done)); (try simp only [↓sx0, sxE, encs, sevalprocAttr])))
    all_goals (
     skip
     refine ⟨by decide, _, by rw [frE_eq]; rfl, ?_⟩
     simp only [↓sx0, sxE, encs, sevalprocAttr]
     refine CallI.bxa 0 (by simp) fun β => ?_
     refine CallI.inlG (rs := [.tmp 2]) Tok (fun h => by first | cases h; done | rfl) Tryz.func113 rfl rfl rfl rfl (by simp) (fun ρ σ μ fr lp => ?_) (by refine ⟨_, ?_, rfl⟩; rfl)
     simp only [↓sx0, sxE, encs, sevalprocAttr]
     refine DrawW.plan Tok mixed (.q 0 <| .q 1 <| .q 2 <| .q 3 <| .q 4 <| .q 5 <| .q 6 <| .q 7 <| .q 8 <| .q 9 <| .q 10 <| .q 11 <| .e 12 [] <| .q 13 <| .done) (by kernel_rfl) (by kernel_rfl) ?_
     simp only [↓sx0, sxE, encs, sevalprocAttr]
     repeat ((with_reducible refine Vc.go ?_ fun _ => ?_); (focus (first | omega | (simp only [InK]; omega) | (simp [InK] <;> omega))); simp only [↓sx0, sxE, encs, sevalprocAttr])
     refine LoopW.comp [4, 23, 24, 25, 1000000] (by simp only [sx2, encs, sxR, sevalprocAttr] <;> (try simp) <;> (try omega)) ?_
     simp only [sx2, sxR, sevalprocAttr]
     exact hcut.out β )
   case tail =>
    intro β
    skip
    refine LoopW.comp [4, 23, 24, 25, 1000000, 2000000] (by simp only [sx2, encs, sxR, sevalprocAttr] <;> (try simp) <;> (try omega)) ?_
    simp only [sx2, sxR, sevalprocAttr]
    refine LoopW.up Tok (fun k : Nat => [(4, .row 0), (25, (.v (.int .i64 ((k : Int)))))]) (fun k => []) (fun k => [(0, ((mkW ⟨7, part, word, old, new, was, kind⟩).take (k + 1)).map eW)]) (fun k => []) (fun k => k ≤ 3) (fun k => 3 - k) (0) (by simp only [sx2, encs, sxR, sevalprocAttr] <;> (try simp [hW, bs_data, encs]) <;> (try omega)) ?_ ?_
    ·omega
    rintro k hk
    simp only [↓sx0, sxE, encs, sevalprocAttr]
    refine BrW.dec (fun hlt => ?_) (fun hlt => ?_)
    ·have hc : k = 0 ∨ k = 1 ∨ k = 2 := by omega
     rcases hc with rfl | rfl | rfl
     ·simp only [↓sx0, sxE, encs, sevalprocAttr]
      repeat ((with_reducible refine Vc.go ?_ fun _ => ?_); (focus (first | omega | (simp only [InK]; omega) | (simp [InK] <;> omega))); simp only [↓sx0, sxE, encs, sevalprocAttr])
      refine ⟨by decide, _, rfl, ?_⟩
      simp only [↓sx0, sxE, encs, sevalprocAttr]
      refine CallI.fnK (it_part) glob_ok hgl rfl (by simp only [sx3, encs, sxR, sevalprocAttr] <;> (try simp) <;> (try rfl)) ?_
      simp only [↓sx0, sxE, encs, sevalprocAttr]
      repeat ((with_reducible refine Vc.go ?_ fun _ => ?_); (focus (first | omega | (simp only [InK]; omega) | (simp [InK] <;> omega))); simp only [↓sx0, sxE, encs, sevalprocAttr])
      refine ⟨1, StLe.auto (by simp only [sx2, encs, sxR, sevalprocAttr] <;> (try simp [hW, eW, bs, bs_data, encs]) <;> (try omega)), ?_, ?_⟩
      all_goals omega
     ·simp only [↓sx0, sxE, encs, sevalprocAttr]
      repeat ((with_reducible refine Vc.go ?_ fun _ => ?_); (focus (first | omega | (simp only [InK]; omega) | (simp [InK] <;> omega))); simp only [↓sx0, sxE, encs, sevalprocAttr])
      refine ⟨by decide, _, rfl, ?_⟩
      simp only [↓sx0, sxE, encs, sevalprocAttr]
      refine CallI.fnK (it_was) glob_ok hgl rfl (by simp only [sx3, encs, sxR, sevalprocAttr] <;> (try simp) <;> (try rfl)) ?_
      simp only [↓sx0, sxE, encs, sevalprocAttr]
      repeat ((with_reducible refine Vc.go ?_ fun _ => ?_); (focus (first | omega | (simp only [InK]; omega) | (simp [InK] <;> omega))); simp only [↓sx0, sxE, encs, sevalprocAttr])
      refine ⟨2, StLe.auto (by simp only [sx2, encs, sxR, sevalprocAttr] <;> (try simp [hW, eW, bs, bs_data, encs]) <;> (try omega)), ?_, ?_⟩
      all_goals omega
     ·simp only [↓sx0, sxE, encs, sevalprocAttr]
      repeat ((with_reducible refine Vc.go ?_ fun _ => ?_); (focus (first | omega | (simp only [InK]; omega) | (simp [InK] <;> omega))); simp only [↓sx0, sxE, encs, sevalprocAttr])
      refine ⟨by decide, _, rfl, ?_⟩
      simp only [↓sx0, sxE, encs, sevalprocAttr]
      refine CallI.fnK (it_kind) glob_ok hgl rfl (by simp only [sx3, encs, sxR, sevalprocAttr] <;> (try simp) <;> (try rfl)) ?_
      simp only [↓sx0, sxE, encs, sevalprocAttr]
      repeat ((with_reducible refine Vc.go ?_ fun _ => ?_); (focus (first | omega | (simp only [InK]; omega) | (simp [InK] <;> omega))); simp only [↓sx0, sxE, encs, sevalprocAttr])
      refine ⟨3, StLe.auto (by simp only [sx2, encs, sxR, sevalprocAttr] <;> (try simp [hW, eW, bs, bs_data, encs]) <;> (try omega)), ?_, ?_⟩
      all_goals omega
    ·have hke : k = 3 := by omega
     subst hke
     have hjn := join_T false (mkW ⟨7, part, word, old, new, was, kind⟩) (by rw [hW]; simp) (by
      have := join_len (mkW ⟨7, part, word, old, new, was, kind⟩) 1000 hwl
      rw [hW] at this ⊢
      simp only [List.length_cons, List.length_nil] at this
      omega)
     rw [show (mkW ⟨7, part, word, old, new, was, kind⟩).take (3 + 1) = mkW ⟨7, part, word, old, new, was, kind⟩ from rfl]
     simp only [↓sx0, sxE, encs, sevalprocAttr]
     refine CallI.fn (hjn) (by simp only [sx3, encs, sxR, sevalprocAttr] <;> (try simp) <;> (try rfl)) ?_
     simp only [↓sx0, sxE, encs, sevalprocAttr]
     refine EndW.fn ?_ ?_ <;> simp only [sx4, encs, kpLL_map, sxR, sevalprocAttr] <;> (try simp [mkT]) <;> (try omega)
 ·refine BrW.no hk ?_
  rw [show mkT ⟨k, part, word, old, new, was, kind⟩ = [] by
   rw [mkT, mkW, if_neg (by simp only; omega), if_neg (by simp only; omega), if_neg (by simp only; omega), if_neg (by simp only; omega), if_neg (by simp only; omega), if_neg (by simp only; omega), if_neg (by simp only; omega)]; rfl]
  simp only [↓sx0, sxE, encs, sevalprocAttr]
  refine EndW.fn ?_ ?_ <;> simp only [sx4, encs, kpLL_map, sxR, sevalprocAttr] <;> (try simp [bs]) <;> (try omega)
end Go.Proofs.YtgcmppghjfidfaaGreatDoor
/-
 Chapter 8: addresses of a mark's fields, by the forms.
-/
namespace Go.Proofs.YtgcmppghjfidfaaGreatDoor
open Go Go.Vx
set_option maxRecDepth 20000
theorem CallI.bxv (k b : Nat) {C : Cx} {f : Nat} {args args' : List SV} {st : St} {K : SV → St → Prop} (hb : Vx.look st.tm 1000000 = .bxa k b) (ha : holdBL k b args = args') (hall : htC args = .all) (h : CallI C f args' st K ⟨⟩) : CallI C f args st K ⟨⟩ := fun g a w ht hm vs hv => by
 have h0 := ht.tm 1000000
 rw [hb] at h0
 have := h g a w ht hm vs (by rw [← ha]; exact rels_holdB h0 _ _ hv)
 exact ⟨this.1, this.2.mono fun e w' ⟨v, he, g', st', sv, k1, k2, k3, k4, k5⟩ => ⟨v, he, g', st', sv, k1, k2, k3, k4, fun hdr => ⟨(k5 hdr).1, by rw [hall]; exact Fr.all⟩⟩⟩
def pA (b o : Nat) : SV := .v (.pointer (some ⟨b, o, none⟩))
def iN (b o : Nat) : List D := [.v (.iface 149 (.pointer (some ⟨b, o, none⟩)))]
def iS (b o : Nat) : List D := [.v (.iface 150 (.pointer (some ⟨b, o, none⟩)))]
theorem pA_eq : (∀ b o, pA b o = .v (.pointer (some ⟨b, o, none⟩))) ∧ (∀ b o, iN b o = [.v (.iface 149 (.pointer (some ⟨b, o, none⟩)))]) ∧ (∀ b o, iS b o = [.v (.iface 150 (.pointer (some ⟨b, o, none⟩)))]) ∧ (∀ bk o j, (⟨bk, o, none⟩ : Addr).add j = ⟨bk, o + j, none⟩) := ⟨fun _ _ => rfl, fun _ _ => rfl, fun _ _ => rfl, fun _ _ _ => addr_at _ _ _⟩
theorem form3_s (b : Nat) : Ctr Tryz.prog 109 [pA b 0] (fun rr => rr = ⟨.row 0, [.own 20 1 [iS b 3]]⟩) := by
 have encs := And.intro encs pA_eq
 refine Ctr.of (rs := [.tmp 2]) Tok false Tryz.func109 rfl rfl rfl rfl (by simp [ofDL]) (fun w0 kp => ?_)
 simp only [↓sx0, sxE, encs, sevalprocAttr]
 repeat ((with_reducible refine Vc.go ?_ fun _ => ?_); (focus (first | omega | (simp only [InK]; omega) | (simp [InK] <;> omega))); simp only [↓sx0, sxE, encs, sevalprocAttr])
 exact EndW.r [some 0] (by simp) (by simp only [sx4, sxF, encs, kpLL_map, sxR, sevalprocAttr] <;> simp) (by simp only [sx4, sxF, encs, kpLL_map, sxR, sevalprocAttr] <;> simp) (by simp only [sx4, sxF, encs, kpLL_map, sxR, sevalprocAttr] <;> simp) (by simp only [sx4, sxF, encs, kpLL_map, sxR, sevalprocAttr] <;> simp)
theorem form4_s (b : Nat) : Ctr Tryz.prog 110 [pA b 0] (fun rr => rr = ⟨.row 0, [.own 20 1 [iS b 4]]⟩) := by
 have encs := And.intro encs pA_eq
 refine Ctr.of (rs := [.tmp 2]) Tok false Tryz.func110 rfl rfl rfl rfl (by simp [ofDL]) (fun w0 kp => ?_)
 simp only [↓sx0, sxE, encs, sevalprocAttr]
 repeat ((with_reducible refine Vc.go ?_ fun _ => ?_); (focus (first | omega | (simp only [InK]; omega) | (simp [InK] <;> omega))); simp only [↓sx0, sxE, encs, sevalprocAttr])
 exact EndW.r [some 0] (by simp) (by simp only [sx4, sxF, encs, kpLL_map, sxR, sevalprocAttr] <;> simp) (by simp only [sx4, sxF, encs, kpLL_map, sxR, sevalprocAttr] <;> simp) (by simp only [sx4, sxF, encs, kpLL_map, sxR, sevalprocAttr] <;> simp) (by simp only [sx4, sxF, encs, kpLL_map, sxR, sevalprocAttr] <;> simp)
theorem form5_s (b : Nat) : Ctr Tryz.prog 111 [pA b 0] (fun rr => rr = ⟨.row 0, [.own 20 1 [iS b 3, iS b 4]]⟩) := by
 have encs := And.intro encs pA_eq
 refine Ctr.of (rs := [.tmp 2]) Tok false Tryz.func111 rfl rfl rfl rfl (by simp [ofDL]) (fun w0 kp => ?_)
 simp only [↓sx0, sxE, encs, sevalprocAttr]
 refine DrawW.plan Tok mixed (.q 0 <| .q 1 <| .q 2 <| .q 3 <| .q 4 <| .q 5 <| .q 6 <| .q 7 <| .e 8 [] <| .q 9 <| .done) (by kernel_rfl) (by kernel_rfl) ?_
 simp only [↓sx0, sxE, encs, sevalprocAttr]
 repeat ((with_reducible refine Vc.go ?_ fun _ => ?_); (focus (first | omega | (simp only [InK]; omega) | (simp [InK] <;> omega))); simp only [↓sx0, sxE, encs, sevalprocAttr])
 exact EndW.r [some 0] (by simp) (by simp only [sx4, sxF, encs, kpLL_map, sxR, sevalprocAttr] <;> simp) (by simp only [sx4, sxF, encs, kpLL_map, sxR, sevalprocAttr] <;> simp) (by simp only [sx4, sxF, encs, kpLL_map, sxR, sevalprocAttr] <;> simp) (by simp only [sx4, sxF, encs, kpLL_map, sxR, sevalprocAttr] <;> simp)
theorem form6_s (b : Nat) : Ctr Tryz.prog 112 [pA b 0] (fun rr => rr = ⟨.v (.slice none 0 0), []⟩) := by
 have encs := And.intro encs pA_eq
 refine Ctr.of (rs := [.tmp 2]) Tok false Tryz.func112 rfl rfl rfl rfl (by simp [ofDL]) (fun w0 kp => ?_)
 simp only [↓sx0, sxE, encs, sevalprocAttr]
 refine EndW.fn ?_ ?_ <;> simp only [sx4, encs, kpLL_map, sxR, sevalprocAttr] <;> (try simp) <;> (try omega)
theorem form2_s (b : Nat) : Ctr Tryz.prog 108 [pA b 0] (fun rr => rr = ⟨.row 0, [.own 20 1 [iN b 6]]⟩) := by
 have encs := And.intro encs pA_eq
 refine Ctr.of (rs := [.tmp 2]) Tok false Tryz.func108 rfl rfl rfl rfl (by simp [ofDL]) (fun w0 kp => ?_)
 simp only [↓sx0, sxE, encs, sevalprocAttr]
 repeat ((with_reducible refine Vc.go ?_ fun _ => ?_); (focus (first | omega | (simp only [InK]; omega) | (simp [InK] <;> omega))); simp only [↓sx0, sxE, encs, sevalprocAttr])
 exact EndW.r [some 0] (by simp) (by simp only [sx4, sxF, encs, kpLL_map, sxR, sevalprocAttr] <;> simp) (by simp only [sx4, sxF, encs, kpLL_map, sxR, sevalprocAttr] <;> simp) (by simp only [sx4, sxF, encs, kpLL_map, sxR, sevalprocAttr] <;> simp) (by simp only [sx4, sxF, encs, kpLL_map, sxR, sevalprocAttr] <;> simp)
theorem flds1_s (b : Nat) : Ctr Tryz.prog 107 [pA b 0, .pt true [.clo 109 []]] (fun rr => rr = ⟨.row 0, [.own 20 1 [iN b 1, iN b 2, iS b 3]]⟩) := by
 have encs := And.intro encs pA_eq
 refine Ctr.of (rs := [.tmp 3]) Tok false Tryz.func107 rfl rfl rfl rfl (by simp [ofDL]) (fun w0 kp => ?_)
 simp only [↓sx0, sxE, encs, sevalprocAttr]
 refine DrawW.plan Tok mixed (.q 0 <| .q 1 <| .q 2 <| .q 3 <| .q 4 <| .q 5 <| .q 6 <| .q 7 <| .q 9 <| .q 10 <| .e2 8 [9] (.e 11 [] <| .e 12 [] <| .q 13 <| .done) 11 [] (.e 8 [9] <| .e 12 [] <| .q 13 <| .done)) (by kernel_rfl) (by kernel_rfl) ?_
 simp only [↓sx0, sxE, encs, sevalprocAttr]
 refine ⟨?_, ?_⟩
 all_goals (
  skip
  refine CallI.ctr (form3_s b) (by simp only [sx3, encs, sxR, sevalprocAttr] <;> (try simp) <;> (try rfl)) ?_
  rintro _ rfl
  simp only [↓sx0, sxE, encs, sevalprocAttr]
  repeat ((with_reducible refine Vc.go ?_ fun _ => ?_); (focus (first | omega | (simp only [InK]; omega) | (simp [InK] <;> omega))); simp only [↓sx0, sxE, encs, sevalprocAttr])
  exact EndW.r [some 2] (by simp) (by simp only [sx4, sxF, encs, kpLL_map, sxR, sevalprocAttr] <;> simp) (by simp only [sx4, sxF, encs, kpLL_map, sxR, sevalprocAttr] <;> simp) (by simp only [sx4, sxF, encs, kpLL_map, sxR, sevalprocAttr] <;> simp) (by simp only [sx4, sxF, encs, kpLL_map, sxR, sevalprocAttr] <;> simp) )
theorem flds2_s (b : Nat) : Ctr Tryz.prog 107 [pA b 0, .pt true [.clo 110 []]] (fun rr => rr = ⟨.row 0, [.own 20 1 [iN b 1, iN b 2, iS b 4]]⟩) := by
 have encs := And.intro encs pA_eq
 refine Ctr.of (rs := [.tmp 3]) Tok false Tryz.func107 rfl rfl rfl rfl (by simp [ofDL]) (fun w0 kp => ?_)
 simp only [↓sx0, sxE, encs, sevalprocAttr]
 refine DrawW.plan Tok mixed (.q 0 <| .q 1 <| .q 2 <| .q 3 <| .q 4 <| .q 5 <| .q 6 <| .q 7 <| .q 9 <| .q 10 <| .e2 8 [9] (.e 11 [] <| .e 12 [] <| .q 13 <| .done) 11 [] (.e 8 [9] <| .e 12 [] <| .q 13 <| .done)) (by kernel_rfl) (by kernel_rfl) ?_
 simp only [↓sx0, sxE, encs, sevalprocAttr]
 refine ⟨?_, ?_⟩
 all_goals (
  skip
  refine CallI.ctr (form4_s b) (by simp only [sx3, encs, sxR, sevalprocAttr] <;> (try simp) <;> (try rfl)) ?_
  rintro _ rfl
  simp only [↓sx0, sxE, encs, sevalprocAttr]
  repeat ((with_reducible refine Vc.go ?_ fun _ => ?_); (focus (first | omega | (simp only [InK]; omega) | (simp [InK] <;> omega))); simp only [↓sx0, sxE, encs, sevalprocAttr])
  exact EndW.r [some 2] (by simp) (by simp only [sx4, sxF, encs, kpLL_map, sxR, sevalprocAttr] <;> simp) (by simp only [sx4, sxF, encs, kpLL_map, sxR, sevalprocAttr] <;> simp) (by simp only [sx4, sxF, encs, kpLL_map, sxR, sevalprocAttr] <;> simp) (by simp only [sx4, sxF, encs, kpLL_map, sxR, sevalprocAttr] <;> simp) )
theorem flds3_s (b : Nat) : Ctr Tryz.prog 107 [pA b 0, .pt true [.clo 111 []]] (fun rr => rr = ⟨.row 0, [.own 20 1 [iN b 1, iN b 2, iS b 3, iS b 4]]⟩) := by
 have encs := And.intro encs pA_eq
 refine Ctr.of (rs := [.tmp 3]) Tok false Tryz.func107 rfl rfl rfl rfl (by simp [ofDL]) (fun w0 kp => ?_)
 simp only [↓sx0, sxE, encs, sevalprocAttr]
 refine DrawW.plan Tok mixed (.q 0 <| .q 1 <| .q 2 <| .q 3 <| .q 4 <| .q 5 <| .q 6 <| .q 7 <| .q 9 <| .q 10 <| .e2 8 [9] (.e 11 [] <| .e 12 [] <| .q 13 <| .done) 11 [] (.e 8 [9] <| .e 12 [] <| .q 13 <| .done)) (by kernel_rfl) (by kernel_rfl) ?_
 simp only [↓sx0, sxE, encs, sevalprocAttr]
 refine ⟨?_, ?_⟩
 all_goals (
  skip
  refine CallI.ctr (form5_s b) (by simp only [sx3, encs, sxR, sevalprocAttr] <;> (try simp) <;> (try rfl)) ?_
  rintro _ rfl
  simp only [↓sx0, sxE, encs, sevalprocAttr]
  repeat ((with_reducible refine Vc.go ?_ fun _ => ?_); (focus (first | omega | (simp only [InK]; omega) | (simp [InK] <;> omega))); simp only [↓sx0, sxE, encs, sevalprocAttr])
  exact EndW.r [some 2] (by simp) (by simp only [sx4, sxF, encs, kpLL_map, sxR, sevalprocAttr] <;> simp) (by simp only [sx4, sxF, encs, kpLL_map, sxR, sevalprocAttr] <;> simp) (by simp only [sx4, sxF, encs, kpLL_map, sxR, sevalprocAttr] <;> simp) (by simp only [sx4, sxF, encs, kpLL_map, sxR, sevalprocAttr] <;> simp) )
theorem flds4_s (b : Nat) : Ctr Tryz.prog 107 [pA b 0, .pt true [.clo 112 []]] (fun rr => rr = ⟨.row 0, [.own 20 1 [iN b 1, iN b 2]]⟩) := by
 have encs := And.intro encs pA_eq
 refine Ctr.of (rs := [.tmp 3]) Tok false Tryz.func107 rfl rfl rfl rfl (by simp [ofDL]) (fun w0 kp => ?_)
 simp only [↓sx0, sxE, encs, sevalprocAttr]
 refine DrawW.plan Tok mixed (.q 0 <| .q 1 <| .q 2 <| .q 3 <| .q 4 <| .q 5 <| .q 6 <| .q 7 <| .q 9 <| .q 10 <| .e2 8 [9] (.e 11 [] <| .e 12 [] <| .q 13 <| .done) 11 [] (.e 8 [9] <| .e 12 [] <| .q 13 <| .done)) (by kernel_rfl) (by kernel_rfl) ?_
 simp only [↓sx0, sxE, encs, sevalprocAttr]
 refine ⟨?_, ?_⟩
 all_goals (
  skip
  refine CallI.ctr (form6_s b) (by simp only [sx3, encs, sxR, sevalprocAttr] <;> (try simp) <;> (try rfl)) ?_
  rintro _ rfl
  simp only [↓sx0, sxE, encs, sevalprocAttr]
  repeat ((with_reducible refine Vc.go ?_ fun _ => ?_); (focus (first | omega | (simp only [InK]; omega) | (simp [InK] <;> omega))); simp only [↓sx0, sxE, encs, sevalprocAttr])
  exact EndW.r [some 1] (by simp) (by simp only [sx4, sxF, encs, kpLL_map, sxR, sevalprocAttr] <;> simp) (by simp only [sx4, sxF, encs, kpLL_map, sxR, sevalprocAttr] <;> simp) (by simp only [sx4, sxF, encs, kpLL_map, sxR, sevalprocAttr] <;> simp) (by simp only [sx4, sxF, encs, kpLL_map, sxR, sevalprocAttr] <;> simp) )
theorem flds5_s (b : Nat) : Ctr Tryz.prog 107 [pA b 0, .pt true [.clo 108 []]] (fun rr => rr = ⟨.row 0, [.own 20 1 [iN b 1, iN b 2, iN b 6]]⟩) := by
 have encs := And.intro encs pA_eq
 refine Ctr.of (rs := [.tmp 3]) Tok false Tryz.func107 rfl rfl rfl rfl (by simp [ofDL]) (fun w0 kp => ?_)
 simp only [↓sx0, sxE, encs, sevalprocAttr]
 refine DrawW.plan Tok mixed (.q 0 <| .q 1 <| .q 2 <| .q 3 <| .q 4 <| .q 5 <| .q 6 <| .q 7 <| .q 9 <| .q 10 <| .e2 8 [9] (.e 11 [] <| .e 12 [] <| .q 13 <| .done) 11 [] (.e 8 [9] <| .e 12 [] <| .q 13 <| .done)) (by kernel_rfl) (by kernel_rfl) ?_
 simp only [↓sx0, sxE, encs, sevalprocAttr]
 refine ⟨?_, ?_⟩
 all_goals (
  skip
  refine CallI.ctr (form2_s b) (by simp only [sx3, encs, sxR, sevalprocAttr] <;> (try simp) <;> (try rfl)) ?_
  rintro _ rfl
  simp only [↓sx0, sxE, encs, sevalprocAttr]
  repeat ((with_reducible refine Vc.go ?_ fun _ => ?_); (focus (first | omega | (simp only [InK]; omega) | (simp [InK] <;> omega))); simp only [↓sx0, sxE, encs, sevalprocAttr])
  exact EndW.r [some 2] (by simp) (by simp only [sx4, sxF, encs, kpLL_map, sxR, sevalprocAttr] <;> simp) (by simp only [sx4, sxF, encs, kpLL_map, sxR, sevalprocAttr] <;> simp) (by simp only [sx4, sxF, encs, kpLL_map, sxR, sevalprocAttr] <;> simp) (by simp only [sx4, sxF, encs, kpLL_map, sxR, sevalprocAttr] <;> simp) )
theorem flds7_s (b : Nat) : Ctr Tryz.prog 113 [pA b 0] (fun rr => rr = ⟨.row 0, [.own 20 1 [iN b 1, iN b 5, iN b 6]]⟩) := by
 have encs := And.intro encs pA_eq
 refine Ctr.of (rs := [.tmp 2]) Tok false Tryz.func113 rfl rfl rfl rfl (by simp [ofDL]) (fun w0 kp => ?_)
 simp only [↓sx0, sxE, encs, sevalprocAttr]
 refine DrawW.plan Tok mixed (.q 0 <| .q 1 <| .q 2 <| .q 3 <| .q 4 <| .q 5 <| .q 6 <| .q 7 <| .q 8 <| .q 9 <| .q 10 <| .q 11 <| .e 12 [] <| .q 13 <| .done) (by kernel_rfl) (by kernel_rfl) ?_
 simp only [↓sx0, sxE, encs, sevalprocAttr]
 repeat ((with_reducible refine Vc.go ?_ fun _ => ?_); (focus (first | omega | (simp only [InK]; omega) | (simp [InK] <;> omega))); simp only [↓sx0, sxE, encs, sevalprocAttr])
 exact EndW.r [some 0] (by simp) (by simp only [sx4, sxF, encs, kpLL_map, sxR, sevalprocAttr] <;> simp) (by simp only [sx4, sxF, encs, kpLL_map, sxR, sevalprocAttr] <;> simp) (by simp only [sx4, sxF, encs, kpLL_map, sxR, sevalprocAttr] <;> simp) (by simp only [sx4, sxF, encs, kpLL_map, sxR, sevalprocAttr] <;> simp)
end Go.Proofs.YtgcmppghjfidfaaGreatDoor
