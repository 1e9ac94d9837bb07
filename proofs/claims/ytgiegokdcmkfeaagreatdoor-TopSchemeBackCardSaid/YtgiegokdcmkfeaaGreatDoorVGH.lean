/-
 Chapter 6: folds written (the program).
-/
import Derived.Test.YtgiegokdcmkfeaaGreatDoorVGF
import Derived.Test.YtgiegokdcmkfeaaGreatDoorVGG
import Derived.Test.YtgiegokdcmkfeaaGreatDoorVGC
import Derived.Test.YtgiegokdcmkfeaaGreatDoorVP6Folded
set_option linter.unusedSimpArgs false
set_option linter.unusedVariables false
namespace Go.Proofs.YtgiegokdcmkfeaaGreatDoor
open Go Go.Vx
set_option maxRecDepth 20000
theorem join_T (b : Bool) (W : List (List UInt8)) (hN : W.length ≤ 1000000) (hlen : (Lib.join W [32]).length ≤ 140737488355328) : Ctr Tryz.prog 34 [.sl b 1 (W.map eT), (.v (.string (⟨#[32]⟩)))] (fun rr => rr = ⟨(.v (.string (bs (Lib.join W [32])))), []⟩) := by
 have e : (W.map bs).map (·.data.toList) = W := by
  rw [List.map_map]
  conv => rhs; rw [← List.map_id W]
  exact List.map_congr_left fun x _ => bs_toList x
 have h := join_s b (W.map bs) ⟨#[32]⟩ (by simpa using hN) (by rw [e]; exact hlen)
 rw [e, List.map_map] at h
 exact h
def wrL (l : List Fold) (k : Nat) : List (List UInt8) := (l.take k).map wrF
theorem wrL_zero (l : List Fold) : wrL l 0 = [] := rfl
theorem wrL_succ {l : List Fold} {k : Nat} (h : k < l.length) : wrL l (k + 1) = wrL l k ++ [wrF l[k]] := by rw [wrL, List.take_succ_eq_append_getElem h, List.map_append]; rfl
theorem ext_7 {k : Int} (h : 1 ≤ k ∧ k ≤ 4) (i j : Nat) (hi : i = k.toNat) (hj : j = (k + 1).toNat) : (⟨#[63, 76, 82, 85, 68, 84, 79]⟩ : ByteArray).extract i j = bs [leF k] := by
 rw [hi, hj]
 obtain rfl | rfl | rfl | rfl : k = 1 ∨ k = 2 ∨ k = 3 ∨ k = 4 := by omega
 all_goals rfl
set_option maxHeartbeats 4000000 in
theorem format_s (b : Bool) (l : List Fold) (hl : l.length ≤ 20) (hc : ∀ f ∈ l, InC f) : CtrK glob Tryz.prog 12 [.sl b 2 (l.map eF)] (fun rr => rr = ⟨(.v (.string (bs (fmtK l l.length)))), []⟩) := by
 have encs := And.intro encs (And.intro eT_def (show ∀ f, eF f = [(.v (.int .i64 f.kind)), (.v (.int .i64 f.count))] from fun _ => rfl))
 have hs7 : (⟨#[63, 76, 82, 85, 68, 84, 79]⟩ : ByteArray).size = 7 := rfl
 refine CtrK.of (rs := [.tmp 2]) Tok true Tryz.func12 rfl rfl rfl rfl (by simp [ofDL]) (fun w0 kp hgl => ?_)
 simp only [↓sx0, sxE, encs, sevalprocAttr]
 refine LoopW.comp [3, 6, 7, 8] (by simp only [sx2, encs, sxR, sevalprocAttr] <;> (try simp) <;> (try omega)) ?_
 simp only [sx2, sxR, sevalprocAttr]
 refine LoopW.up Tok (fun k : Nat => [(3, .row 0), (8, (.v (.int .i64 ((k : Int)))))]) (fun k => []) (fun k => []) (fun k => [.own 9 1 ((wrL l k).map eT)]) (fun k => k ≤ l.length) (fun k => l.length - k) (0) (by simp only [sx2, encs, sxR, sevalprocAttr] <;> (try simp [wrL_zero, encs]) <;> (try omega)) ?_ ?_
 ·exact Nat.zero_le _
 rintro k hk
 have hwl : (wrL l k).length = k := by rw [wrL, List.length_map, List.length_take]; omega
 simp only [↓sx0, sxE, encs, sevalprocAttr]
 refine BrW.dec (fun hlt => ?_) (fun hlt => ?_)
 ·have hlt : k < l.length := by omega
  have hif := hc _ (List.getElem_mem hlt)
  have hsc := wrL_succ hlt
  have hsi : (bs (Lib.itoa l[k].count)).size ≤ 21 := by rw [bs_size]; exact itoaW_len hif
  simp only [↓sx0, sxE, encs, sevalprocAttr]
  refine IxW.nat hlt ?_
  simp only [↓sx0, sxE, encs, sevalprocAttr]
  refine BrW.dec (fun h5 => ?_) (fun h5 => ?_)
  ·have hW : wrF l[k] = [79] := by rw [wrF, if_pos h5]
   simp only [↓sx0, sxE, encs, sevalprocAttr]
   repeat ((with_reducible refine Vc.go ?_ fun _ => ?_); (focus (first | omega | (simp only [InK]; omega) | (simp [InK]; done) | (simp [InK]; omega))); simp only [↓sx0, sxE, encs, sevalprocAttr])
   rw [show (⟨#[79]⟩ : ByteArray) = bs [79] from rfl]
   refine ⟨k + 1, StLe.auto (by simp only [sx2, encs, sxR, sevalprocAttr] <;> (try simp [hsc, hW, encs]) <;> (try omega)), ?_, ?_⟩
   all_goals omega
  ·simp only [↓sx0, sxE, encs, sevalprocAttr]
   refine BrW.dec (fun h6 => ?_) (fun h6 => ?_)
   ·have hW : wrF l[k] = [84] := by rw [wrF, if_neg h5, if_pos h6]
    simp only [↓sx0, sxE, encs, sevalprocAttr]
    repeat ((with_reducible refine Vc.go ?_ fun _ => ?_); (focus (first | omega | (simp only [InK]; omega) | (simp [InK]; done) | (simp [InK]; omega))); simp only [↓sx0, sxE, encs, sevalprocAttr])
    rw [show (⟨#[84]⟩ : ByteArray) = bs [84] from rfl]
    refine ⟨k + 1, StLe.auto (by simp only [sx2, encs, sxR, sevalprocAttr] <;> (try simp [hsc, hW, encs]) <;> (try omega)), ?_, ?_⟩
    all_goals omega
   ·have hW : wrF l[k] = leF l[k].kind :: Lib.itoa l[k].count := by rw [wrF, if_neg h5, if_neg h6]
    simp only [↓sx0, sxE, encs, sevalprocAttr]
    refine CallI.fn (within_s l[k].kind 1 4) (by simp only [sx3, encs, sxR, sevalprocAttr] <;> (try simp) <;> (try rfl)) ?_
    simp only [↓sx0, sxE, encs, sevalprocAttr]
    refine BrW.dec (fun hw => ?_) (fun hw => ?_)
    ·simp only [↓sx0, sxE, encs, sevalprocAttr]
     refine DrawW.plan Tok mixed (.q 0 <| .q 1 <| .q 2 <| .q 3 <| .q 4 <| .q 5 <| .q 6 <| .q 7 <| .q 8 <| .e 9 [2, 4] <| .q 10 <| .e 11 [] <| .e 12 [] <| .q 13 <| .done) (by kernel_rfl) (by kernel_rfl) ?_
     simp only [↓sx0, sxE, encs, sevalprocAttr]
     repeat ((with_reducible refine Vc.go ?_ fun _ => ?_); (focus (first | omega | (simp only [InK]; omega) | (simp [InK]; done) | (simp [InK]; omega))); simp only [↓sx0, sxE, encs, sevalprocAttr])
     refine CallI.fnK (itoa_s l[k].count hif.1 hif.2) glob_ok hgl rfl (by simp only [sx3, encs, sxR, sevalprocAttr] <;> (try simp) <;> (try rfl)) ?_
     simp only [↓sx0, sxE, encs, sevalprocAttr]
     rw [ext_7 hw _ _ rfl rfl, show (⟨(Lib.itoa l[k].count).toArray⟩ : ByteArray) = bs (Lib.itoa l[k].count) from rfl]
     have hs1 : (bs [leF l[k].kind]).size = 1 := bs_size _
     repeat ((with_reducible refine Vc.go ?_ fun _ => ?_); (focus (first | omega | (simp only [InK]; omega) | (simp [InK]; done) | (simp [InK]; omega))); simp only [↓sx0, sxE, encs, sevalprocAttr])
     rw [bs_add, List.singleton_append]
     refine ⟨k + 1, StLe.auto (by simp only [sx2, encs, sxR, sevalprocAttr] <;> (try simp [hsc, hW, encs]) <;> (try omega)), ?_, ?_⟩
     all_goals omega
    ·simp only [↓sx0, sxE, encs, sevalprocAttr]
     refine DrawW.plan Tok mixed (.q 0 <| .q 1 <| .q 2 <| .q 3 <| .e 4 [] <| .q 5 <| .e 6 [] <| .e 7 [] <| .q 8 <| .done) (by kernel_rfl) (by kernel_rfl) ?_
     simp only [↓sx0, sxE, encs, sevalprocAttr]
     repeat ((with_reducible refine Vc.go ?_ fun _ => ?_); (focus (first | omega | (simp only [InK]; omega) | (simp [InK]; done) | (simp [InK]; omega))); simp only [↓sx0, sxE, encs, sevalprocAttr])
     refine CallI.fnK (itoa_s l[k].count hif.1 hif.2) glob_ok hgl rfl (by simp only [sx3, encs, sxR, sevalprocAttr] <;> (try simp) <;> (try rfl)) ?_
     simp only [↓sx0, sxE, encs, sevalprocAttr]
     have hle : leF l[k].kind = 63 := leF_no (by omega)
     rw [show (⟨#[63, 76, 82, 85, 68, 84, 79]⟩ : ByteArray).extract 0 1 = bs [63] from rfl, show (⟨(Lib.itoa l[k].count).toArray⟩ : ByteArray) = bs (Lib.itoa l[k].count) from rfl]
     have hs1 : (bs [63]).size = 1 := bs_size _
     repeat ((with_reducible refine Vc.go ?_ fun _ => ?_); (focus (first | omega | (simp only [InK]; omega) | (simp [InK]; done) | (simp [InK]; omega))); simp only [↓sx0, sxE, encs, sevalprocAttr])
     rw [bs_add, List.singleton_append]
     refine ⟨k + 1, StLe.auto (by simp only [sx2, encs, sxR, sevalprocAttr] <;> (try simp [hsc, hW, hle, encs]) <;> (try omega)), ?_, ?_⟩
     all_goals omega
 ·simp only [↓sx0, sxE, encs, sevalprocAttr]
  have hke : k = l.length := by omega
  subst hke
  have hfl := fmtK_len hc l.length (Nat.le_refl _)
  have hj := join_T false (wrL l l.length) (by omega) (by rw [show Lib.join (wrL l l.length) [32] = fmtK l l.length from rfl]; omega)
  rw [show Lib.join (wrL l l.length) [32] = fmtK l l.length from rfl] at hj
  refine CallI.fn (hj) (by simp only [sx3, encs, sxR, sevalprocAttr] <;> (try simp) <;> (try rfl)) ?_
  simp only [↓sx0, sxE, encs, sevalprocAttr]
  refine EndW.fn ?_ ?_ <;> simp only [sx4, encs, kpLL_map, sxR, sevalprocAttr] <;> (try simp) <;> (try omega)
end Go.Proofs.YtgiegokdcmkfeaaGreatDoor
/-
 Chapter 6: folds as texts, plain: both read alike; right folds are read back.
-/
namespace Go.Proofs.YtgiegokdcmkfeaaGreatDoor
open Go Go.Vx
set_option maxRecDepth 20000
theorem ixF_kd (c : UInt8) : kdF c = 0 ∧ ixF c ≤ 0 ∨ 0 < kdF c ∧ ixF c = kdF c := by
 by_cases h0 : c = 63
 ·subst h0; exact .inl (by decide)
 ·by_cases h1 : c = 76
  ·subst h1; exact .inr (by decide)
  ·by_cases h2 : c = 82
   ·subst h2; exact .inr (by decide)
   ·by_cases h3 : c = 85
    ·subst h3; exact .inr (by decide)
    ·by_cases h4 : c = 68
     ·subst h4; exact .inr (by decide)
     ·refine .inl ⟨by rw [kdF, if_neg h1, if_neg h2, if_neg h3, if_neg h4], ?_⟩
      rw [ixF, byte_no _ (by simp [h0, h1, h2, h3, h4])]
      decide
theorem rd_same (w : List UInt8) : (rwP w).2 = (rdF w).2 ∧ ((rdF w).2 = true → rwP w = rdF w) := by
 unfold rwP rdF
 by_cases h1 : w = [79]
 ·rw [if_pos h1, if_pos h1]; exact ⟨rfl, fun _ => rfl⟩
 rw [if_neg h1, if_neg h1]
 by_cases h2 : w = [84]
 ·rw [if_pos h2, if_pos h2]; exact ⟨rfl, fun _ => rfl⟩
 rw [if_neg h2, if_neg h2]
 cases w with
 | nil => exact ⟨rfl, fun _ => rfl⟩
 | cons c r =>
  simp only
  obtain ⟨n1, n2⟩ := num_same r 2 (by decide)
  by_cases hr : r = [] ∨ kdF c = 0
  ·rw [if_pos hr]
   refine ⟨?_, fun h => by cases h⟩
   rcases hr with hr | hr
   ·subst hr
    rw [n1]
    simp [numR]
   ·rcases ixF_kd c with ⟨_, h⟩ | ⟨h, _⟩
    ·rw [show decide (0 < ixF c) = false by simp; omega]; rfl
    ·omega
  ·rw [if_neg hr]
   rcases ixF_kd c with ⟨h, _⟩ | ⟨h, he⟩
   ·exact absurd (.inr h) hr
   ·rw [he, n1, show decide (0 < kdF c) = true by simpa using h, Bool.true_and]
    cases hb : (numR r 2).2 with
    | false => exact ⟨rfl, fun h => by cases h⟩
    | true =>
     rw [n2 hb]
     exact ⟨rfl, fun _ => rfl⟩
theorem prs_same (s : List UInt8) : prsG rwP s = prsG rdF s := by
 unfold prsG
 split
 ·rfl
 split
 ·rfl
 have ha : (fun w => (rwP w).2) = fun w => (rdF w).2 := funext fun w => (rd_same w).1
 rw [ha]
 split
 ·rename_i h
  rw [List.all_eq_true] at h
  rw [List.map_congr_left fun w hw => by rw [(rd_same w).2 (h w hw)]]
 ·rfl
/-- a fold that may be right. -/
def OkF (x : Fold) : Prop := (x.kind = 5 ∨ x.kind = 6) ∧ x.count = 0 ∨ (1 ≤ x.kind ∧ x.kind ≤ 4) ∧ 1 ≤ x.count ∧ x.count ≤ 8
theorem foldP_small {p : PileS} {x : Fold} (h : foldErrS p x = 0) (hp : p.cols ≤ 8 ∧ p.rows ≤ 8) : OkF x ∧ (foldP p x).cols ≤ 8 ∧ (foldP p x).rows ≤ 8 := by
 have h' := h
 unfold foldErrS at h
 have hs : foldSide p x ≤ 8 := by unfold foldSide; split <;> omega
 by_cases hk : 1 ≤ x.kind ∧ x.kind ≤ 6
 rotate_left
 ·rw [if_pos hk] at h; omega
 rw [if_neg (fun hh => hh hk)] at h
 by_cases h56 : x.kind = 5 ∨ x.kind = 6
 ·simp only [if_pos h56] at h
  by_cases h0 : x.count = 0
  rotate_left
  ·rw [if_pos h0] at h; omega
  refine ⟨.inl ⟨h56, h0⟩, ?_⟩
  unfold foldP
  rw [if_neg (by omega)]
  rcases h56 with h5 | h6
  ·rw [if_pos h5]; exact hp
  ·rw [if_neg (by omega), if_pos h6]; exact hp
 ·simp only [if_neg h56] at h
  by_cases h1 : x.count < 1
  ·rw [if_pos h1] at h; omega
  rw [if_neg h1] at h
  by_cases h3 : ¬ (x.kind = 5 ∨ x.kind = 6) ∧ (foldSide p x : Int) - x.count < x.count
  ·rw [if_pos h3] at h; omega
  have hc : ¬ ((foldSide p x : Int) - x.count < x.count) := fun hh => h3 ⟨h56, hh⟩
  refine ⟨.inr ⟨by omega, by omega, by omega⟩, ?_⟩
  unfold foldP
  rw [if_neg (by omega), if_neg (by omega), if_neg (by omega)]
  simp only
  constructor
  ·split <;> omega
  ·split <;> omega
theorem run_bad : ∀ (l : List Fold) (p q : PileS) (i k : Nat) (e : Int), foldRun p i l = (q, some (k, e)) → e ≠ 0
 | [], _, _, _, _, _, h => by rw [foldRun] at h; cases h
 | x :: l, p, q, i, k, e, h => by
  rw [foldRun] at h
  by_cases hn : foldErrS p x ≠ 0
  ·rw [if_pos hn] at h
   have h2 := (Prod.mk.inj h).2
   have := Option.some.inj h2
   have := (Prod.mk.inj this).2
   omega
  ·rw [if_neg hn] at h
   exact run_bad l _ q _ k e h
theorem run_ok : ∀ (l : List Fold) (p q : PileS) (i : Nat), p.cols ≤ 8 ∧ p.rows ≤ 8 → foldRun p i l = (q, none) → ∀ x ∈ l, OkF x
 | [], _, _, _, _, _ => by simp
 | x :: l, p, q, i, hp, h => by
  rw [foldRun] at h
  split at h
  ·cases h
  ·rename_i hn
   have hn := Decidable.not_not.1 hn
   obtain ⟨h1, h2⟩ := foldP_small hn hp
   intro y hy
   rcases List.mem_cons.1 hy with rfl | hy
   ·exact h1
   ·exact run_ok l _ q _ h2 h y hy
theorem folded_small {c r : Int} {l : List Fold} (h : (foldedS c r l).2.2 = 0) : l.length ≤ 12 ∧ ∀ x ∈ l, OkF x := by
 unfold foldedS at h
 split at h
 ·exact absurd h (by assumption)
 rename_i h1
 have hs : 1 ≤ c ∧ c ≤ 8 ∧ 1 ≤ r ∧ r ≤ 8 := by
  unfold sheetErr at h1
  omega
 split at h
 ·cases h
 rename_i h2
 refine ⟨by omega, ?_⟩
 split at h
 ·rename_i p i e he
  exact absurd h (run_bad l _ _ _ _ _ he)
 ·rename_i p he
  exact run_ok l _ _ _ ⟨by simp only [flatP]; omega, by simp only [flatP]; omega⟩ he
theorem itoa_1 {n : Int} (h : 0 ≤ n ∧ n < 10) : Lib.itoa n = [UInt8.ofNat (48 + n.toNat)] := by
 rw [Lib.itoa, if_neg (by omega), Lib.decDigits, dif_pos (by omega)]
theorem wr_small {k n : Int} (hk : 1 ≤ k ∧ k ≤ 4) (hn : 1 ≤ n ∧ n ≤ 8) : rdF [leF k, UInt8.ofNat (48 + n.toNat)] = (⟨k, n⟩, true) ∧ ¬ (32 : UInt8) ∈ [leF k, UInt8.ofNat (48 + n.toNat)] := by
 obtain rfl | rfl | rfl | rfl : k = 1 ∨ k = 2 ∨ k = 3 ∨ k = 4 := by omega
 all_goals
  obtain rfl | rfl | rfl | rfl | rfl | rfl | rfl | rfl : n = 1 ∨ n = 2 ∨ n = 3 ∨ n = 4 ∨ n = 5 ∨ n = 6 ∨ n = 7 ∨ n = 8 := by omega
  all_goals exact ⟨by decide, by decide⟩
theorem wr_back {f : Fold} (h : OkF f) : rdF (wrF f) = (f, true) ∧ ¬ (32 : UInt8) ∈ wrF f ∧ wrF f ≠ [] := by
 obtain ⟨k, n⟩ := f
 rcases h with ⟨h1, h2⟩ | ⟨h1, h2, h3⟩
 ·simp only at h1 h2
  subst h2
  rcases h1 with rfl | rfl
  ·exact ⟨by decide, by decide, by decide⟩
  ·exact ⟨by decide, by decide, by decide⟩
 ·simp only at h1 h2 h3
  have hw : wrF ⟨k, n⟩ = [leF k, UInt8.ofNat (48 + n.toNat)] := by
   rw [wrF, if_neg (by simp only; omega), if_neg (by simp only; omega)]
   simp only
   rw [itoa_1 ⟨by omega, by omega⟩]
  rw [hw]
  exact ⟨(wr_small h1 ⟨h2, h3⟩).1, (wr_small h1 ⟨h2, h3⟩).2, by simp⟩
theorem cut_join : ∀ (W : List (List UInt8)), W ≠ [] → (∀ w ∈ W, ¬ (32 : UInt8) ∈ w) → cutL 32 [] (Lib.join W [32]) = W
 | [], h, _ => absurd rfl h
 | [w], _, h => by rw [Lib.join_one, cut_miss _ _ (h w (by simp))]; rfl
 | w :: v :: r, _, h => by
  have ih := cut_join (v :: r) (by simp) (fun x hx => h x (List.mem_cons_of_mem _ hx))
  have hj : Lib.join (w :: v :: r) [32] = w ++ 32 :: Lib.join (v :: r) [32] := by
   rw [Lib.join_cons, Lib.join_cons]; simp [Lib.joinTail]
  rw [hj, cut_hit w [] _ (h w (by simp)), ih]; rfl
/-- right folds are read back. -/
theorem fmt_back {l : List Fold} (h12 : l.length ≤ 12) (h : ∀ x ∈ l, OkF x) : prsG rdF (fmtK l l.length) = (l, 0) := by
 by_cases h0 : l = []
 ·subst h0; rfl
 have hcut : cutL 32 [] (fmtK l l.length) = l.map wrF := by
  rw [fmtK, List.take_length]
  exact cut_join _ (by simpa using h0) (fun w hw => by
   obtain ⟨x, hx, rfl⟩ := List.mem_map.1 hw
   exact (wr_back (h x hx)).2.1)
 have hne : ¬ fmtK l l.length = [] := by
  intro e
  rw [e] at hcut
  obtain ⟨x, r, rfl⟩ : ∃ x r, l = x :: r := by
   cases l with
   | nil => exact absurd rfl h0
   | cons x r => exact ⟨x, r, rfl⟩
  rw [List.map_cons] at hcut
  have h1 := (List.cons.inj (show [[]] = wrF x :: r.map wrF from hcut)).1
  exact (wr_back (h x (by simp))).2.2 h1.symm
 have hall : (l.map wrF).all (fun w => (rdF w).2) = true := by
  rw [List.all_map, List.all_eq_true]
  intro x hx
  show (rdF (wrF x)).2 = true
  rw [(wr_back (h x hx)).1]
 rw [prsG, if_neg hne, hcut, if_neg (by rw [List.length_map]; omega), if_pos hall, List.map_map]
 have hm : l.map ((fun w => (rdF w).1) ∘ wrF) = l := by
  conv => rhs; rw [← List.map_id l]
  exact List.map_congr_left fun x hx => by
   show (rdF (wrF x)).1 = x
   rw [(wr_back (h x hx)).1]
 rw [hm]
end Go.Proofs.YtgiegokdcmkfeaaGreatDoor
/-
 Chapter 6: the law of words.
-/
namespace Go.Proofs.YtgiegokdcmkfeaaGreatDoor
open Go Go.Vx
set_option maxRecDepth 20000
end Go.Proofs.YtgiegokdcmkfeaaGreatDoor
/-
 The chapters' top: a scheme comes back (the law).
-/
namespace Go.Proofs.YtgiegokdcmkfeaaGreatDoor
open Go Go.Vx
set_option maxRecDepth 20000
theorem clOk_I {n : Nat} {x : Cell} (h : clOk n x = true) (hn : n ≤ 64) : CelI x := by
 have := of_decide_eq_true h
 unfold CelI I64
 omega
set_option maxHeartbeats 4000000 in
theorem law_back (c r : Int) (l : List Fold) (t : Bool) (hl : Cnt l) : CtrK glob Tryz.prog 3 [.agg [(.v (.int .i64 c)), (.v (.int .i64 r))], .sl true 2 (l.map eF), (.v (.bool (t)))] (fun rr => rr = ⟨(.v (.bool (true))), []⟩) := by
 have hfl := folded_len c r l
 refine CtrK.of (rs := [.tmp 6]) Tok true Tryz.func3 rfl rfl rfl rfl (by simp [ofDL]) (fun w0 kp hgl => ?_)
 simp only [↓sx0, sxE, encs, sevalprocAttr]
 refine CallI.fn (imposed_s) (by simp only [sx3, encs, sxR, sevalprocAttr] <;> (try simp) <;> (try rfl)) ?_
 simp only [↓sx0, sxE, encs, sevalprocAttr]
 refine BrW.dec (fun hn => ?_) (fun hn => ?_)
 ·simp only [↓sx0, sxE, encs, sevalprocAttr]
  refine EndW.fn ?_ ?_ <;> simp only [sx4, encs, kpLL_map, sxR, sevalprocAttr] <;> (try simp) <;> (try omega)
 ·simp only [↓sx0, sxE, encs, sevalprocAttr]
  refine CallI.fn (checkFoldsR_s true c r l) (by simp only [sx3, encs, sxR, sevalprocAttr] <;> (try simp) <;> (try rfl)) ?_
  simp only [↓sx0, sxE, encs, sevalprocAttr]
  refine BrW.dec (fun he => ?_) (fun he => ?_)
  ·simp only [↓sx0, sxE, encs, sevalprocAttr]
   refine EndW.fn ?_ ?_ <;> simp only [sx4, encs, kpLL_map, sxR, sevalprocAttr] <;> (try simp) <;> (try omega)
  ·have he0 : (foldedS c r l).2.2 = 0 := Decidable.not_not.1 he
   obtain ⟨hl12, hok12⟩ := folded_small he0
   obtain ⟨s1, s2, s3, s4, s5⟩ := folded_sheet he0
   obtain ⟨cn, rfl⟩ : ∃ cn : Nat, c = cn := ⟨c.toNat, by omega⟩
   obtain ⟨rn, rfl⟩ : ∃ rn : Nat, r = rn := ⟨r.toNat, by omega⟩
   have hrc : rn * cn ≤ 8 * 8 := Nat.mul_le_mul (by omega) (by omega)
   have hS : schemeS cn rn l = ((cn : Int), (rn : Int), schC cn rn l, 0) := by unfold schemeS; rw [if_neg he]; rfl
   have hcl := schC_len cn rn l
   have hok := (schC_ok he0).2
   have hI : ∀ x ∈ schC cn rn l, CelI x := fun x hx => clOk_I ((schC_ok he0).1 x hx) (by omega)
   have hR : readsS cn rn (schC cn rn l) l = ((foldedS cn rn l).1.flatMap (rdP cn (schC cn rn l)), 0) := by unfold readsS; rw [if_neg (by simp [hok]), if_neg he, Int.toNat_natCast]
   have hrl : ((foldedS cn rn l).1.flatMap (rdP cn (schC cn rn l))).length = 2 * (rn * cn) := by rw [rdL_len, pile_len he0]
   have b7 : 2 * (cn : Int) * rn ≤ 16 * 8 := Int.mul_le_mul (by omega) (by omega) (by omega) (by omega)
   have b8 : 0 ≤ 2 * (cn : Int) * rn := Int.mul_nonneg (by omega) (by omega)
   have hln2 : (((foldedS cn rn l).1.flatMap (rdP cn (schC cn rn l))).length : Int) = 2 * (cn : Int) * rn := by rw [hrl]; push_cast; rw [Int.mul_comm (rn : Int), Int.mul_assoc]
   have cP := printS_s cn rn (schC cn rn l) hI
   have he' : (schS cn rn (schC cn rn l)).2 = 0 := by rw [hok]
   obtain ⟨g1, g2, g3⟩ := sch_back he'
   have cX := parseS_s (schT cn rn (schC cn rn l)) (.inl ⟨g2, g3⟩)
   rw [parS_same, g1] at cX
   rw [show prtS cn rn (schC cn rn l) = (bs (schT cn rn (schC cn rn l)), 0) by rw [prtS, if_pos he']; simp] at cP
   simp only at cP cX
   have hfk := fmtK_len hl l.length (Nat.le_refl _)
   have cG := parse_s (fmtK l l.length) (by omega)
   rw [prs_same, fmt_back hl12 hok12] at cG
   simp only at cG
   have cS := scheme_s false cn rn l hl
   rw [hS] at cS
   simp only at cS
   have cC := comb_s false t cn rn (schC cn rn l) he'
   have cR := reads_s true false cn rn (schC cn rn l) l hl
   rw [hR] at cR
   simp only at cR
   simp only [↓sx0, sxE, encs, sevalprocAttr]
   refine DrawW.plan Tok mixed (.q 0 <| .q 2 <| .e2 1 [0] (.e2 3 [0] (.e2 4 [] (.q 5 <| .q 6 <| .q 7 <| .e 8 [0] <| .e 9 [] <| .q 10 <| .done) 8 [0] (.e 4 [] <| .q 5 <| .q 6 <| .q 7 <| .e 9 [] <| .q 10 <| .done)) 8 [0] (.e 3 [0] <| .e 4 [] <| .q 5 <| .q 6 <| .q 7 <| .e 9 [] <| .q 10 <| .done)) 8 [0] (.e 1 [0] <| .e 3 [0] <| .e 4 [] <| .q 5 <| .q 6 <| .q 7 <| .e 9 [] <| .q 10 <| .done)) (by kernel_rfl) (by kernel_rfl) ?_
   simp only [↓sx0, sxE, encs, sevalprocAttr]
   repeat' (first | (with_reducible refine And.intro ?_ ?_) | ((with_reducible refine Vc.go ?_ fun _ => ?_); (focus (first | trivial | omega | (simp only [InK]; omega) | (simp [InK]; done) | (simp [InK]; omega))); (try simp only [↓sx0, sxE, encs, sevalprocAttr])) | (refine CallI.fn (cS) ?_ ?_; (focus ((simp only [sx3, encs, sxR, sevalprocAttr] <;> (try simp) <;> (try rfl)); done)); (try simp only [↓sx0, sxE, encs, sevalprocAttr])))
   all_goals (
    refine CallI.ctr (copy_s true cn rn (schC cn rn l) (by omega)) (by simp only [sx3, encs, sxR, sevalprocAttr] <;> (try simp) <;> (try rfl)) ?_
    rintro _ rfl
    simp only [↓sx0, sxE, encs, sevalprocAttr]
    refine CallI.frz [2] (by simp only [sx2, sxA, encs, sxR, sevalprocAttr] <;> rfl) (by simp only [sx2, sxA, encs, sxR, sevalprocAttr] <;> rfl) ?_
    refine CallI.fnK (cP) glob_ok hgl rfl (by simp only [sx3, encs, sxR, sevalprocAttr] <;> (try simp) <;> (try rfl)) ?_
    simp only [↓sx0, sxE, encs, sevalprocAttr]
    refine CallI.fnK (cX) glob_ok hgl rfl (by simp only [sx3, encs, sxR, sevalprocAttr] <;> (try simp) <;> (try rfl)) ?_
    simp only [↓sx0, sxE, encs, sevalprocAttr]
    repeat ((with_reducible refine Vc.go ?_ fun _ => ?_); (focus (first | omega | (simp only [InK]; omega) | (simp [InK]; done) | (simp [InK]; omega))); simp only [↓sx0, sxE, encs, sevalprocAttr])
    refine CallI.fnK (format_s false l (by omega) hl) glob_ok hgl rfl (by simp only [sx3, encs, sxR, sevalprocAttr] <;> (try simp) <;> (try rfl)) ?_
    simp only [↓sx0, sxE, encs, sevalprocAttr]
    refine CallI.fnK (cG) glob_ok hgl rfl (by simp only [sx3, encs, sxR, sevalprocAttr] <;> (try simp) <;> (try rfl)) ?_
    simp only [↓sx0, sxE, encs, sevalprocAttr]
    repeat ((with_reducible refine BrW.no (by simp) ?_); simp only [↓sx0, sxE, encs, sevalprocAttr])
    refine CallI.fn (same_s true true cn rn cn rn (schC cn rn l) (schC cn rn l) (by omega)) (by simp only [sx3, encs, sxR, sevalprocAttr] <;> (try simp) <;> (try rfl)) ?_
    simp only [↓sx0, sxE, encs, sevalprocAttr]
    repeat ((with_reducible refine BrW.no (by simp) ?_); simp only [↓sx0, sxE, encs, sevalprocAttr])
    refine CallI.fn (sameFolds_s true true l l (by omega)) (by simp only [sx3, encs, sxR, sevalprocAttr] <;> (try simp) <;> (try rfl)) ?_
    simp only [↓sx0, sxE, encs, sevalprocAttr]
    refine CallI.ctr (copy_s true cn rn (schC cn rn l) (by omega)) (by simp only [sx3, encs, sxR, sevalprocAttr] <;> (try simp) <;> (try rfl)) ?_
    rintro _ rfl
    simp only [↓sx0, sxE, encs, sevalprocAttr]
    refine CallI.fn (cC) (by simp only [sx3, encs, sxR, sevalprocAttr] <;> (try simp) <;> (try rfl)) ?_
    simp only [↓sx0, sxE, encs, sevalprocAttr]
    by_cases hk : sheetErr (cmC t cn : Nat) (cmR t rn : Nat) = 0
    ·have cT := twice_s true t (cmC t cn : Nat) (cmR t rn : Nat) (cmV t cn rn (schC cn rn l)) (cm_len (by omega) (by omega))
     rw [cm_twice he' hcl (by omega) (by omega) hk] at cT
     have cH := halves_s true t (cmC t cn : Nat) (cmR t rn : Nat) (cmX t cn rn (schC cn rn l))
     rw [cm_halves he' hcl (by omega) (by omega) hk] at cH
     simp only at cT cH
     rw [cmS_ok hk]
     refine BrW.no (by simp) ?_
     simp only [↓sx0, sxE, encs, sevalprocAttr]
     refine CallI.fn (cT) (by simp only [sx3, encs, sxR, sevalprocAttr] <;> (try simp) <;> (try rfl)) ?_
     simp only [↓sx0, sxE, encs, sevalprocAttr]
     refine CallI.fn (cH) (by simp only [sx3, encs, sxR, sevalprocAttr] <;> (try simp) <;> (try rfl)) ?_
     simp only [↓sx0, sxE, encs, sevalprocAttr]
     repeat ((with_reducible refine BrW.no (by simp) ?_); simp only [↓sx0, sxE, encs, sevalprocAttr])
     refine LoopW.comp [3, 16, 22, 24] (by simp only [sx2, encs, sxR, sevalprocAttr] <;> (try simp) <;> (try omega)) ?_
     simp only [sx2, sxR, sevalprocAttr]
     refine LoopW.up Tok (fun k : Nat => [(24, (.v (.int .i64 k)))]) (fun k => []) (fun k => []) (fun k => []) (fun k => k ≤ 2) (fun k => 2 - k) (0) (by simp only [sx2, encs, sxR, sevalprocAttr] <;> (try simp) <;> (try omega)) ?_ ?_
     ·omega
     rintro k hk2
     simp only [↓sx0, sxE, encs, sevalprocAttr]
     refine BrW.dec (fun hlt => ?_) (fun hlt => ?_)
     ·simp only [↓sx0, sxE, encs, sevalprocAttr]
      have g1 : k < 2 := by omega
      obtain ⟨j, hj⟩ : ∃ j, j = k + 1 := ⟨_, rfl⟩
      obtain rfl | rfl : k = 0 ∨ k = 1 := by omega
      all_goals (
       refine DrawW.plan Tok mixed (.q 0 <| .q 1 <| .q 2 <| .q 4 <| .e 3 [2] <| .e 5 [2] <| .e 6 [] <| .q 7 <| .q 8 <| .q 9 <| .q 10 <| .q 11 <| .done) (by kernel_rfl) (by kernel_rfl) ?_
       simp only [↓sx0, sxE, encs, sevalprocAttr]
       repeat' (first | (with_reducible refine And.intro ?_ ?_) | ((with_reducible refine Vc.go ?_ fun _ => ?_); (focus (first | trivial | omega | (simp only [InK]; omega) | (simp [InK]; done) | (simp [InK]; omega))); (try simp only [↓sx0, sxE, encs, sevalprocAttr])) | (refine CallI.fn (cR) ?_ ?_; (focus ((simp only [sx3, encs, sxR, sevalprocAttr] <;> (try simp) <;> (try rfl)); done)); (try simp only [↓sx0, sxE, encs, sevalprocAttr])))
       all_goals (
        refine BrW.no (by simp) ?_
        simp only [↓sx0, sxE, encs, sevalprocAttr]
        repeat ((with_reducible refine Vc.go ?_ fun _ => ?_); (focus (first | omega | (simp only [InK]; omega) | (simp [InK]; done) | (simp [InK]; omega))); simp only [↓sx0, sxE, encs, sevalprocAttr])
        refine BrW.no (by simpa only [decide_eq_false_iff_not, Decidable.not_not] using hln2) ?_
        simp only [↓sx0, sxE, encs, sevalprocAttr]
        refine CallI.fn (inOrder_s true ((foldedS cn rn l).1.flatMap (rdP cn (schC cn rn l))) (by omega) (schC_read he0)) (by simp only [sx3, encs, sxR, sevalprocAttr] <;> (try simp) <;> (try rfl)) ?_
        simp only [↓sx0, sxE, encs, sevalprocAttr]
        (with_reducible refine Vc.go ?_ fun _ => ?_); focus (first | omega | (simp only [InK]; omega) | (simp [InK]; done) | (simp [InK]; omega))
        simp only [↓sx0, sxE, encs, sevalprocAttr]
        refine ⟨j, StLe.auto (by simp only [sx2, encs, sxR, sevalprocAttr] <;> (try simp [hj, encs]) <;> (try omega)), ?_, ?_⟩
        ·omega
        ·omega))
     ·simp only [↓sx0, sxE, encs, sevalprocAttr]
      refine EndW.fn ?_ ?_ <;> simp only [sx4, encs, kpLL_map, sxR, sevalprocAttr] <;> (try simp) <;> (try omega)
    ·rw [cmS_no hk]
     refine BrW.yes (by simp) ?_
     simp only [↓sx0, sxE, encs, sevalprocAttr]
     refine EndW.fn ?_ ?_ <;> simp only [sx4, encs, kpLL_map, sxR, sevalprocAttr] <;> (try simp) <;> (try omega))
end Go.Proofs.YtgiegokdcmkfeaaGreatDoor
