/-
 Chapter 8: a mark's text (the reference).
-/
import Derived.Test.YtgcmppghjfidfaaGreatDoorVGF
import Derived.Test.YtgcmppghjfidfaaGreatDoorVGlobI
import Derived.Test.YtgcmppghjfidfaaGreatDoorVGG
import Derived.Test.YtgcmppghjfidfaaGreatDoorVGC
import Derived.Test.YtgcmppghjfidfaaGreatDoorVGD
import Derived.Test.YtgcmppghjfidfaaGreatDoorVItB
import Derived.Test.YtgcmppghjfidfaaGreatDoorVBld
import Derived.Test.YtgcmppghjfidfaaGreatDoorVGB
set_option linter.unusedSimpArgs false
set_option linter.unusedVariables false
namespace Go.Proofs.YtgcmppghjfidfaaGreatDoor
open Go Go.Vx
set_option maxRecDepth 20000
theorem nmB_len (k : Nat) : (nmB k).data.toList.length ≤ 6 := by unfold nmB; split <;> decide
end Go.Proofs.YtgcmppghjfidfaaGreatDoor
/-
 Chapter 8: a mark read (the reference).
-/
namespace Go.Proofs.YtgcmppghjfidfaaGreatDoor
open Go Go.Vx
set_option maxRecDepth 20000
def nuR (w : List UInt8) : Int × Bool := numR w 7
/-- the mark that is found among the first k words. -/
def mI (W : List (List UInt8)) (k : Nat) : Int := if 1 ≤ kOf (wAt W 0) ∧ kOf (wAt W 0) < k then (kOf (wAt W 0) : Int) else 0
end Go.Proofs.YtgcmppghjfidfaaGreatDoor
/-
 Chapter 8: both read alike; a right mark is read back.
-/
namespace Go.Proofs.YtgcmppghjfidfaaGreatDoor
open Go Go.Vx Go.Lib
set_option maxRecDepth 20000
theorem okK_same (W : List (List UInt8)) (k : Nat) : okK nuP W k = okK nuR W k := by
 have hs : ∀ w, (nuP w).2 = (nuR w).2 := fun w => (num_same w 7 (by decide)).1
 simp only [okK, hs]
theorem mkK_same {W : List (List UInt8)} {k : Nat} (h : okK nuR W k = true) : mkK nuP W k = mkK nuR W k := by
 have hs : ∀ w, (nuR w).2 = true → (nuP w).1 = (nuR w).1 := fun w => (num_same w 7 (by decide)).2
 simp only [okK, Bool.and_eq_true, decide_eq_true_eq] at h
 obtain ⟨⟨⟨h1, h2⟩, h3⟩, h4⟩ := h
 by_cases hk : k = 5 ∨ k = 6 ∨ k = 7
 ·rw [if_pos hk] at h4
  simp only [mkK, hs _ h2, hs _ h3, hs _ h4]
 ·simp only [mkK, hs _ h2, hs _ h3, if_neg hk]
theorem prsM_same (l : List UInt8) : prsM nuP l = prsM nuR l := by
 unfold prsM
 by_cases h10 : (10 : UInt8) ∈ l
 ·rw [if_pos h10, if_pos h10]
 rw [if_neg h10, if_neg h10, okK_same]
 by_cases hk : 1 ≤ kOf (wAt (cutL 32 [] l) 0) ∧ okK nuR (cutL 32 [] l) (kOf (wAt (cutL 32 [] l) 0)) = true
 ·rw [if_pos hk, if_pos hk, mkK_same hk.2]
 ·rw [if_neg hk, if_neg hk]
theorem itoa_nat {n : Int} (h : 0 ≤ n) : itoa n = decDigits n.toNat := by rw [itoa, if_neg (by omega)]
theorem nuR_itoa {n : Int} (h : 0 ≤ n ∧ n ≤ 9999999) : nuR (itoa n) = (n, true) ∧ ∀ c ∈ itoa n, 48 ≤ c.toNat := by
 rw [itoa_nat h.1]
 have ha := dec_all n.toNat
 have hne := dec_ne n.toNat
 have hv := dec_val n.toNat
 have hl := dec_len 6 n.toNat (by omega)
 have hd : ∀ c ∈ decDigits n.toNat, 48 ≤ c.toNat ∧ c.toNat ≤ 57 := fun c hc => by
  have := List.all_eq_true.1 ha c hc
  simpa [dgB] using this
 have h0 : ¬ ((decDigits n.toNat).head? = some 48 ∧ 1 < (decDigits n.toNat).length) := fun ⟨e1, e2⟩ => by
  by_cases hz : n.toNat = 0
  ·rw [hz, decDigits, dif_pos (by omega)] at e2; simp at e2
  ·obtain ⟨c, r, e3, e4⟩ := dec_head n.toNat (by omega)
   rw [e3] at e1
   simp only [List.head?_cons, Option.some.injEq] at e1
   rw [e1] at e4; exact e4 rfl
 have h45 : (decDigits n.toNat).head? ≠ some 45 := fun e => by
  cases hq : decDigits n.toNat with
  | nil => rw [hq] at e; cases e
  | cons c r =>
   rw [hq] at e
   simp only [List.head?_cons, Option.some.injEq] at e
   have := hd c (by rw [hq]; simp)
   rw [e] at this
   exact absurd this.1 (by decide)
 refine ⟨?_, fun c hc => (hd c hc).1⟩
 unfold nuR numR
 rw [if_neg h45, if_neg (fun h => by
  rcases h with h | h | h
  ·exact hne h
  ·omega
  ·exact h0 h), if_pos ha, hv]
 simp only [Prod.mk.injEq, and_true]; omega
/-- bytes that part nothing. -/
def Cln (w : List UInt8) : Prop := ∀ c ∈ w, 33 ≤ c.toNat
theorem itoa_cln {n : Int} (h : 0 ≤ n ∧ n ≤ 9999999) : Cln (itoa n) := fun c hc => by have := (nuR_itoa h).2 c hc; omega
theorem nmB_cln (k : Nat) : Cln (nmB k).data.toList := by
 unfold nmB Cln
 split <;> decide
theorem isWd_cln {s : ByteArray} (h : isWd s = true) : Cln s.data.toList := fun c hc => by
 simp only [isWd, Bool.and_eq_true, bytesOk, List.all_eq_true] at h
 have := h.1 c hc
 simp only [okB, Bool.and_eq_true, decide_eq_true_eq] at this
 omega
theorem cut_mk {m : Mk} (hc : ∀ w ∈ mkW m, Cln w) (hne : mkW m ≠ []) : cutL 32 [] (mkT m) = mkW m ∧ ¬ (10 : UInt8) ∈ mkT m := by
 refine ⟨cut_join _ hne fun w hw h => absurd (hc w hw 32 h) (by decide), ?_⟩
 unfold mkT
 generalize mkW m = W at hc
 clear hne
 have : ∀ (W : List (List UInt8)), (∀ w ∈ W, Cln w) → ∀ c ∈ Lib.join W [32], 32 ≤ c.toNat := by
  intro W
  induction W with
  | nil => intro _ c hc; simp [Lib.join] at hc
  | cons w W ih =>
   intro h c hc
   cases W with
   | nil =>
    rw [Lib.join_one] at hc
    have := h w (by simp) c hc; omega
   | cons v r =>
    have hj : Lib.join (w :: v :: r) [32] = w ++ 32 :: Lib.join (v :: r) [32] := by
     rw [Lib.join_cons, Lib.join_cons]; simp [Lib.joinTail]
    rw [hj, List.mem_append, List.mem_cons] at hc
    rcases hc with hc | rfl | hc
    ·have := h w (by simp) c hc; omega
    ·decide
    ·exact ih (fun x hx => h x (List.mem_cons_of_mem _ hx)) c hc
 intro h
 exact absurd (this W hc 10 h) (by decide)
theorem mk_back {m : Mk} (h : mkErr m = 0) : prsM nuR (mkT m) = (m, 0) := by
 have hh := h
 obtain ⟨mark, part, word, old, new, was, kind⟩ := m
 unfold mkErr at h
 simp only at h
 split at h
 ·rename_i hm
  split at h
  ·rename_i hr
   split at h
   ·rename_i hw
    obtain ⟨hw, hp, h7⟩ := hw
    simp only [inR, Bool.and_eq_true, decide_eq_true_eq] at hr
    obtain ⟨hr1, hr2⟩ := hr
    have np := (nuR_itoa (n := part) ⟨by omega, by omega⟩).1
    have nw := (nuR_itoa (n := word) ⟨by omega, by omega⟩).1
    have cp := itoa_cln (n := part) ⟨by omega, by omega⟩
    have cw := itoa_cln (n := word) ⟨by omega, by omega⟩
    have hc : mark = 1 ∨ mark = 2 ∨ mark = 3 ∨ mark = 4 ∨ mark = 5 ∨ mark = 6 ∨ mark = 7 := by omega
    have fin : ∀ (k : Nat) (W : List (List UInt8)), 1 ≤ k ∧ k ≤ 7 → mkW ⟨mark, part, word, old, new, was, kind⟩ = W → W ≠ [] → (∀ w ∈ W, Cln w) → wAt W 0 = (nmB k).data.toList → okK nuR W k = true → mkK nuR W k = ⟨mark, part, word, old, new, was, kind⟩ → prsM nuR (mkT ⟨mark, part, word, old, new, was, kind⟩) = (⟨mark, part, word, old, new, was, kind⟩, 0) := by
     intro k W hk e hne hcl hw0 hok hmk
     obtain ⟨c1, c2⟩ := cut_mk (m := ⟨mark, part, word, old, new, was, kind⟩) (by rw [e]; exact hcl) (by rw [e]; exact hne)
     unfold prsM
     rw [if_neg c2, c1, e, hw0, kOf_is hk, if_pos ⟨hk.1, hok⟩, hmk, if_pos hh]
    rcases hc with rfl | rfl | rfl | rfl | rfl | rfl | rfl
    ·simp [wantB] at hw
     obtain ⟨w1, rfl, rfl, rfl⟩ := hw
     refine fin 1 [(nmB 1).data.toList, itoa part, itoa word, old.data.toList] (by omega) rfl (by simp) ?_ rfl ?_ ?_
     ·intro w hw
      simp only [List.mem_cons, List.not_mem_nil, or_false] at hw
      rcases hw with rfl | rfl | rfl | rfl
      ·exact nmB_cln 1
      ·exact cp
      ·exact cw
      ·exact isWd_cln w1
     ·simp [okK, lenK, wAt, np, nw]
     ·simp [mkK, wAt, sAt, np, nw, bs_data]
    ·simp [wantB] at hw
     obtain ⟨w1, rfl, rfl, rfl⟩ := hw
     refine fin 2 [(nmB 2).data.toList, itoa part, itoa word, new.data.toList] (by omega) rfl (by simp) ?_ rfl ?_ ?_
     ·intro w hw
      simp only [List.mem_cons, List.not_mem_nil, or_false] at hw
      rcases hw with rfl | rfl | rfl | rfl
      ·exact nmB_cln 2
      ·exact cp
      ·exact cw
      ·exact isWd_cln w1
     ·simp [okK, lenK, wAt, np, nw]
     ·simp [mkK, wAt, sAt, np, nw, bs_data]
    ·simp [wantB] at hw
     obtain ⟨⟨⟨w1, w2⟩, w3⟩, rfl, rfl⟩ := hw
     refine fin 3 [(nmB 3).data.toList, itoa part, itoa word, old.data.toList, new.data.toList] (by omega) rfl (by simp) ?_ rfl ?_ ?_
     ·intro w hw
      simp only [List.mem_cons, List.not_mem_nil, or_false] at hw
      rcases hw with rfl | rfl | rfl | rfl | rfl
      ·exact nmB_cln 3
      ·exact cp
      ·exact cw
      ·exact isWd_cln w1
      ·exact isWd_cln w2
     ·simp [okK, lenK, wAt, np, nw]
     ·simp [mkK, wAt, sAt, np, nw, bs_data]
    ·simp [wantB] at hw
     obtain ⟨rfl, rfl, rfl, rfl⟩ := hw
     refine fin 4 [(nmB 4).data.toList, itoa part, itoa word] (by omega) rfl (by simp) ?_ rfl ?_ ?_
     ·intro w hw
      simp only [List.mem_cons, List.not_mem_nil, or_false] at hw
      rcases hw with rfl | rfl | rfl
      ·exact nmB_cln 4
      ·exact cp
      ·exact cw
     ·simp [okK, lenK, wAt, np, nw]
     ·simp [mkK, wAt, sAt, np, nw, bs_data]
    ·simp [wantB] at hw
     obtain ⟨w1, rfl, rfl, rfl⟩ := hw
     have nk := (nuR_itoa (n := kind) ⟨by omega, by omega⟩).1
     refine fin 5 [(nmB 5).data.toList, itoa part, itoa word, itoa kind] (by omega) rfl (by simp) ?_ rfl ?_ ?_
     ·intro w hw
      simp only [List.mem_cons, List.not_mem_nil, or_false] at hw
      rcases hw with rfl | rfl | rfl | rfl
      ·exact nmB_cln 5
      ·exact cp
      ·exact cw
      ·exact itoa_cln ⟨by omega, by omega⟩
     ·simp [okK, lenK, wAt, np, nw, nk]
     ·simp [mkK, wAt, sAt, np, nw, nk, bs_data]
    ·simp [wantB] at hw
     obtain ⟨w1, rfl, rfl, rfl⟩ := hw
     have nk := (nuR_itoa (n := kind) ⟨by omega, by omega⟩).1
     refine fin 6 [(nmB 6).data.toList, itoa part, itoa word, itoa kind] (by omega) rfl (by simp) ?_ rfl ?_ ?_
     ·intro w hw
      simp only [List.mem_cons, List.not_mem_nil, or_false] at hw
      rcases hw with rfl | rfl | rfl | rfl
      ·exact nmB_cln 6
      ·exact cp
      ·exact cw
      ·exact itoa_cln ⟨by omega, by omega⟩
     ·simp [okK, lenK, wAt, np, nw, nk]
     ·simp [mkK, wAt, sAt, np, nw, nk, bs_data]
    ·simp [wantB] at hw
     obtain ⟨⟨⟨w1, w2⟩, w3⟩, rfl, rfl⟩ := hw
     have nk := (nuR_itoa (n := kind) ⟨by omega, by omega⟩).1
     have na := (nuR_itoa (n := was) ⟨by omega, by omega⟩).1
     have hz : word = 0 := Decidable.byContradiction fun h => h7 ⟨rfl, h⟩
     subst hz
     refine fin 7 [(nmB 7).data.toList, itoa part, itoa was, itoa kind] (by omega) rfl (by simp) ?_ rfl ?_ ?_
     ·intro w hw
      simp only [List.mem_cons, List.not_mem_nil, or_false] at hw
      rcases hw with rfl | rfl | rfl | rfl
      ·exact nmB_cln 7
      ·exact cp
      ·exact itoa_cln ⟨by omega, by omega⟩
      ·exact itoa_cln ⟨by omega, by omega⟩
     ·simp [okK, lenK, wAt, np, na, nk]
     ·simp [mkK, wAt, sAt, np, na, nk, bs_data]
   ·cases h
  ·cases h
 ·cases h
end Go.Proofs.YtgcmppghjfidfaaGreatDoor
/-
 Chapter 8, walks: lines of texts, and the builder.
-/
namespace Go.Proofs.YtgcmppghjfidfaaGreatDoor
open Go Go.Vx Go.Shelf Go.RowKit
set_option maxRecDepth 20000
def laysIdBR : Ren := ⟨fun | 137 => 76 | 217 => 115 | 266 => 155 | n => n, fun | 9 => 9 | 5 => 5 | 3 => 3 | n => n, fun n => n⟩
set_option maxRecDepth 100000 in
theorem laysIdB : Lays.n137 Tryz.prog laysIdBR := { mixed := rfl, f137 := Tryz.func76, f217 := Tryz.func115, f266 := Tryz.func155, t3 := Tryz.underlying3, a3 := Tryz.isAgg3, z3 := Tryz.sizeOf3, v3 := Tryz.zeroValue3, t5 := Tryz.underlying5, a5 := Tryz.isAgg5, z5 := Tryz.sizeOf5, v5 := Tryz.zeroValue5, t9 := Tryz.underlying9, a9 := Tryz.isAgg9, z9 := Tryz.sizeOf9, v9 := Tryz.zeroValue9 }
theorem idx_T (l : List UInt8) : Ctr Tryz.prog 76 [(.v (.string (bs l))), .v (.int .u8 10)] (fun rr => rr = ⟨(.v (.int .i64 (Lib.indexByte l 10))), []⟩) :=
 Ctr.vals (xs := [.string (bs l), .int .u8 10]) Tryz.func76 rfl rfl (u := .int .i64 (Lib.indexByte l 10)) (fun g => rfl) fun w => (Any.strings_IndexByte laysIdB (bs l) 10 w).mono fun e w' ⟨he, hw⟩ => ⟨by rw [he, bs_toList]; rfl, by rw [hw]; exact Below.refl _ _⟩
theorem wstr_s : WStr Tryz.prog 42 90 5 :=
 ⟨⟨_, Tryz.func42, rfl, rfl⟩, fun B b p v n l s w hp hb ho hn hl hB => wstr_raw (ρ := laysJoinR) { laysJoin with } xJoin B b p v n l s w hp hb ho hn hl hB⟩
theorem bstr_s : BStr Tryz.prog 44 90 5 :=
 ⟨⟨_, Tryz.func44, rfl, rfl⟩, fun B b p v l w hb ho hl => bstr_raw (ρ := laysJoinR) { laysJoin with } xJoin B b p v l w hb ho hl, fun B b p w hb => Any.Builder_String_nil (ρ := laysJoinR) { laysJoin with } xJoin B b p w hb⟩
/-- the lines of a text, each with its end. -/
def finL : List (List UInt8) → List (List UInt8)
 | [] => []
 | [l] => if l = [] then [] else [l]
 | p :: q :: ps => (p ++ [10]) :: finL (q :: ps)
def lnsL (s : List UInt8) : List (List UInt8) := finL (cutL 10 [] s)
theorem cutL_ne (c : UInt8) : ∀ (l acc : List UInt8), ∃ p ps, cutL c acc l = p :: ps
 | [], acc => ⟨_, _, rfl⟩
 | b :: l, acc => by
  rw [cutL]
  split
  ·exact ⟨_, _, rfl⟩
  ·exact cutL_ne c l _
theorem lns_hit {A B : List UInt8} (h : ¬ (10 : UInt8) ∈ A) : lnsL (A ++ 10 :: B) = (A ++ [10]) :: lnsL B := by
 obtain ⟨p, ps, hp⟩ := cutL_ne 10 B []
 rw [lnsL, cut_hit A [] B h, hp, lnsL, hp, List.nil_append, finL]
theorem lns_miss {r : List UInt8} (h : ¬ (10 : UInt8) ∈ r) (hr : r ≠ []) : lnsL r = [r] := by
 rw [lnsL, cut_miss r [] h, List.nil_append, finL, if_neg hr]
theorem lns_nil : lnsL [] = [] := rfl
def lnY (p : List UInt8) : List SV := [(.v (.string (bs p)))]
theorem lnY_def : ∀ p, lnY p = [(.v (.string (bs p)))] := fun _ => rfl
structure LS where
 O : List (List UInt8)
 r : List UInt8
set_option maxHeartbeats 4000000 in
theorem linesIt_s (s : List UInt8) (hs : s.length ≤ 1000000) : ItCtrB Tryz.prog 75 9 [(.v (.string (bs s)))] [.box 0 0] ((lnsL s).map lnY) := by
 have encs := And.intro encs lnY_def
 refine ItCtrB.of Tok Tryz.func75 rfl rfl rfl rfl (by decide) (fun w0 kp yd hok => ?_)
 simp only [↓sx0, sxE, encs, sevalprocAttr]
 skip
 refine LoopW.comp [0, 1] (by simp only [sx2, encs, sxR, sevalprocAttr] <;> (try simp) <;> (try omega)) ?_
 simp only [sx2, sxR, sevalprocAttr]
 refine LoopW.upG Tok (fun x : LS => []) (fun x => [(0, [(.v (.string (bs x.r)))])]) (fun x => []) (fun x => []) (fun x => x.O.map lnY) (fun x => lnsL s = x.O ++ lnsL x.r ∧ x.r.length ≤ s.length) (fun x => x.r.length) (⟨[], s⟩) (by simp only [sx2, encs, sxR, sevalprocAttr] <;> (try simp [lnY, encs]) <;> (try omega)) ?_ ?_
 ·exact ⟨rfl, Nat.le_refl _⟩
 rintro ⟨O, r⟩ ⟨hO, hr⟩
 simp only at hO hr
 simp only [↓sx0, sxE, encs, sevalprocAttr]
 have hsz := bs_size r
 refine BrW.dec (fun hlt => ?_) (fun hlt => ?_)
 ·simp only [↓sx0, sxE, encs, sevalprocAttr]
  have hlt : 0 < r.length := by omega
  refine CallI.fn (idx_T r) (by simp only [sx3, encs, sxR, sevalprocAttr] <;> (try simp) <;> (try rfl)) ?_
  simp only [↓sx0, sxE, encs, sevalprocAttr]
  by_cases hm : (10 : UInt8) ∈ r
  ·obtain ⟨A, B, rfl, hA⟩ := split_first hm
   rw [Go.Vx.byte_at A B hA]
   have hlen : (A ++ 10 :: B).length = A.length + 1 + B.length := by simp; omega
   refine BrW.yes (by omega) ?_
   simp only [↓sx0, sxE, encs, sevalprocAttr]
   have e1 : ∀ i j, i = 0 → j = A.length + 1 → (bs (A ++ 10 :: B)).extract i j = bs (A ++ [10]) := fun i j h1 h2 => by
    rw [show A ++ 10 :: B = [] ++ (A ++ [10]) ++ B by simp]; exact bs_ext [] (A ++ [10]) B i j h1 (by simp [h2])
   have e2 : ∀ i j, i = A.length + 1 → j = A.length + 1 + B.length → (bs (A ++ 10 :: B)).extract i j = bs B := fun i j h1 h2 => by
    rw [show A ++ 10 :: B = (A ++ [10]) ++ B ++ [] by simp]; exact bs_ext (A ++ [10]) B [] i j (by simp [h1]) (by simp [h2])
   refine DrawW.plan Tok mixed (.q 0 <| .q 1 <| .q 2 <| .q 3 <| .q 4 <| .q 5 <| .q 6 <| .q 7 <| .q 8 <| .e 9 [] <| .done) (by kernel_rfl) (by kernel_rfl) ?_
   simp only [↓sx0, sxE, encs, sevalprocAttr]
   repeat ((with_reducible refine Vc.go ?_ fun _ => ?_); (focus (first | omega | (simp only [InK]; omega) | (simp [InK] <;> omega))); simp only [↓sx0, sxE, encs, sevalprocAttr])
   rw [e1 _ _ (by omega) (by omega), e2 _ _ (by omega) (by omega)]
   have hst := lns_hit (B := B) hA
   have hpre : O.map lnY ++ [[(.v (.string (bs (A ++ [10]))))]] <+: (lnsL s).map lnY := by
    rw [hO, hst]
    exact ⟨(lnsL B).map lnY, by simp [lnY]⟩
   have hadd : (O ++ [A ++ [10]]).map lnY = O.map lnY ++ [[(.v (.string (bs (A ++ [10]))))]] := by simp [lnY]
   refine YldI.of (ys := O.map lnY) hok rfl rfl (by simp only [sx2, sxA, encs, sxR, sevalprocAttr] <;> rfl) (by simp only [sx2, sxA, encs, sxR, sevalprocAttr] <;> rfl) rfl rfl rfl (hpre) ?_ ?_
   ·simp only [↓sx0, sxE, encs, sevalprocAttr]
    repeat ((with_reducible refine Vc.go ?_ fun _ => ?_); (focus (first | omega | (simp only [InK]; omega) | (simp [InK] <;> omega))); simp only [↓sx0, sxE, encs, sevalprocAttr])
    refine ⟨⟨O ++ [A ++ [10]], B⟩, StLe.auto (by simp only [sx2, encs, sxR, sevalprocAttr] <;> (try simp [hadd, encs]) <;> (try omega)), ?_, ?_⟩
    ·exact ⟨by rw [hO, hst]; simp, by show B.length ≤ s.length; omega⟩
    ·simp only; omega
   ·simp only [↓sx0, sxE, encs, sevalprocAttr]
    intro h
    cases h
  ·rw [Go.Vx.byte_no r hm]
   refine BrW.no (by omega) ?_
   have hst := lns_miss hm (fun e => by rw [e] at hlt; simp at hlt)
   have hpre : O.map lnY ++ [[(.v (.string (bs r)))]] <+: (lnsL s).map lnY := by
    rw [hO, hst]
    exact ⟨[], by simp [lnY]⟩
   have hadd : (O ++ [r]).map lnY = O.map lnY ++ [[(.v (.string (bs r)))]] := by simp [lnY]
   simp only [↓sx0, sxE, encs, sevalprocAttr]
   repeat ((with_reducible refine Vc.go ?_ fun _ => ?_); (focus (first | omega | (simp only [InK]; omega) | (simp [InK] <;> omega))); simp only [↓sx0, sxE, encs, sevalprocAttr])
   refine YldI.of (ys := O.map lnY) hok rfl rfl (by simp only [sx2, sxA, encs, sxR, sevalprocAttr] <;> rfl) (by simp only [sx2, sxA, encs, sxR, sevalprocAttr] <;> rfl) rfl rfl rfl (hpre) ?_ ?_
   ·simp only [↓sx0, sxE, encs, sevalprocAttr]
    repeat ((with_reducible refine Vc.go ?_ fun _ => ?_); (focus (first | omega | (simp only [InK]; omega) | (simp [InK] <;> omega))); simp only [↓sx0, sxE, encs, sevalprocAttr])
    refine ⟨⟨O ++ [r], []⟩, StLe.auto (by simp only [sx2, encs, sxR, sevalprocAttr] <;> (try simp [hadd, bs_nil, encs]) <;> (try omega)), ?_, ?_⟩
    ·exact ⟨by rw [hO, hst, lns_nil]; simp, by simp⟩
    ·simp only [List.length_nil]; omega
   ·simp only [↓sx0, sxE, encs, sevalprocAttr]
    intro h
    cases h
 ·simp only [↓sx0, sxE, encs, sevalprocAttr]
  have hr0 : r = [] := List.length_eq_zero_iff.1 (by omega)
  subst hr0
  rw [lns_nil, List.append_nil] at hO
  rw [hO]
  intro _
  rfl
theorem b10 : (⟨#[10]⟩ : ByteArray) = bs [10] := rfl
theorem sz10 : (⟨#[10]⟩ : ByteArray).size = 1 := rfl
theorem hasSuf_yes (A : List UInt8) (hl : A.length ≤ 1000000) : Ctr Tryz.prog 116 [(.v (.string (bs (A ++ [10])))), (.v (.string (⟨#[10]⟩)))] (fun rr => rr = ⟨(.v (.bool (true))), []⟩) := by
 have hsz := bs_size (A ++ [10])
 have hs1 := sz10
 have hex : ∀ i j, i = A.length → j = A.length + 1 → (bs (A ++ [10])).extract i j = bs [10] := fun i j h1 h2 => by
  rw [show A ++ [10] = A ++ [10] ++ [] by simp]; exact bs_ext A [10] [] i j h1 (by simp [h2])
 simp only [List.length_append, List.length_singleton] at hsz
 refine Ctr.of (rs := [.tmp 4]) Tok true Tryz.func116 rfl rfl rfl rfl (by simp [ofDL]) (fun w0 kp => ?_)
 simp only [↓sx0, xE, sevalprocAttr]
 refine BrW.yes (by omega) ?_
 simp only [↓sx0, xE, sevalprocAttr]
 repeat ((with_reducible refine Vc.go ?_ fun _ => ?_); (focus (first | omega | (simp only [InK]; omega) | (simp [InK] <;> omega))); simp only [↓sx0, xE, sevalprocAttr])
 rw [hex _ _ (by omega) (by omega)]
 refine EndW.fn ?_ ?_ <;> simp only [sx4, xK, sevalprocAttr] <;> (try simp [b10]) <;> (try omega)
theorem hasSuf_no (r : List UInt8) (hr : r ≠ []) (hn : ¬ (10 : UInt8) ∈ r) (hl : r.length ≤ 1000000) : Ctr Tryz.prog 116 [(.v (.string (bs r))), (.v (.string (⟨#[10]⟩)))] (fun rr => rr = ⟨(.v (.bool (false))), []⟩) := by
 obtain ⟨A, x, rfl⟩ : ∃ A x, r = A ++ [x] := ⟨r.dropLast, r.getLast hr, (List.dropLast_concat_getLast hr).symm⟩
 have hsz := bs_size (A ++ [x])
 have hs1 := sz10
 have hx : ¬ x = 10 := fun e => hn (by simp [e])
 have hex : ∀ i j, i = A.length → j = A.length + 1 → (bs (A ++ [x])).extract i j = bs [x] := fun i j h1 h2 => by
  rw [show A ++ [x] = A ++ [x] ++ [] by simp]; exact bs_ext A [x] [] i j h1 (by simp [h2])
 simp only [List.length_append, List.length_singleton] at hsz hl
 have hne : ¬ bs [x] = ⟨#[10]⟩ := fun e => hx (by rw [b10, bs_inj] at e; simpa using e)
 refine Ctr.of (rs := [.tmp 4]) Tok true Tryz.func116 rfl rfl rfl rfl (by simp [ofDL]) (fun w0 kp => ?_)
 simp only [↓sx0, xE, sevalprocAttr]
 refine BrW.yes (by omega) ?_
 simp only [↓sx0, xE, sevalprocAttr]
 repeat ((with_reducible refine Vc.go ?_ fun _ => ?_); (focus (first | omega | (simp only [InK]; omega) | (simp [InK] <;> omega))); simp only [↓sx0, xE, sevalprocAttr])
 rw [hex _ _ (by omega) (by omega)]
 refine EndW.fn ?_ ?_ <;> simp only [sx4, xK, sevalprocAttr] <;> (try simp [hne]) <;> (try omega)
theorem cutSuf_yes (A : List UInt8) (hl : A.length ≤ 1000000) : Ctr Tryz.prog 46 [(.v (.string (bs (A ++ [10])))), (.v (.string (⟨#[10]⟩)))] (fun rr => rr = ⟨.tup [(.v (.string (bs A))), (.v (.bool (true)))], []⟩) := by
 have hsz := bs_size (A ++ [10])
 have hs1 := sz10
 have hex : ∀ i j, i = 0 → j = A.length → (bs (A ++ [10])).extract i j = bs A := fun i j h1 h2 => by
  rw [show A ++ [10] = [] ++ A ++ [10] by simp]; exact bs_ext [] A [10] i j h1 (by simp [h2])
 simp only [List.length_append, List.length_singleton] at hsz
 refine Ctr.of (rs := [.tmp 4, .tmp 5]) Tok true Tryz.func46 rfl rfl rfl rfl (by simp [ofDL]) (fun w0 kp => ?_)
 simp only [↓sx0, xE, sevalprocAttr]
 refine CallI.inl (rs := [.tmp 4, .tmp 5]) Tok Tryz.func77 rfl rfl rfl rfl (by simp) (fun ρ σ μ fr lp => ?_)
 simp only [↓sx0, xE, sevalprocAttr]
 refine CallI.fn (hasSuf_yes A hl) (by simp only [sx3, xR, sevalprocAttr] <;> (try simp) <;> (try rfl)) ?_
 simp only [↓sx0, xE, sevalprocAttr]
 repeat ((with_reducible refine Vc.go ?_ fun _ => ?_); (focus (first | omega | (simp only [InK]; omega) | (simp [InK] <;> omega))); simp only [↓sx0, xE, sevalprocAttr])
 rw [hex _ _ (by omega) (by omega)]
 refine EndW.fn ?_ ?_ <;> simp only [sx4, xK, sevalprocAttr] <;> (try simp) <;> (try omega)
theorem cutSuf_no (r : List UInt8) (hr : r ≠ []) (hn : ¬ (10 : UInt8) ∈ r) (hl : r.length ≤ 1000000) : Ctr Tryz.prog 46 [(.v (.string (bs r))), (.v (.string (⟨#[10]⟩)))] (fun rr => rr = ⟨.tup [(.v (.string (bs r))), (.v (.bool (false)))], []⟩) := by
 refine Ctr.of (rs := [.tmp 4, .tmp 5]) Tok true Tryz.func46 rfl rfl rfl rfl (by simp [ofDL]) (fun w0 kp => ?_)
 simp only [↓sx0, xE, sevalprocAttr]
 refine CallI.inl (rs := [.tmp 4, .tmp 5]) Tok Tryz.func77 rfl rfl rfl rfl (by simp) (fun ρ σ μ fr lp => ?_)
 simp only [↓sx0, xE, sevalprocAttr]
 refine CallI.fn (hasSuf_no r hr hn hl) (by simp only [sx3, xR, sevalprocAttr] <;> (try simp) <;> (try rfl)) ?_
 simp only [↓sx0, xE, sevalprocAttr]
 refine EndW.fn ?_ ?_ <;> simp only [sx4, xK, sevalprocAttr] <;> (try simp) <;> (try omega)
end Go.Proofs.YtgcmppghjfidfaaGreatDoor
/-
 Chapter 8, walks: lists of marks written.
-/
namespace Go.Proofs.YtgcmppghjfidfaaGreatDoor
open Go Go.Vx
set_option maxRecDepth 20000
theorem mkT_len {m : Mk} {c : Nat} (hI : MkI m) (hc : 40 ≤ c) (ho : m.old.size ≤ c) (hn : m.new.size ≤ c) : (mkT m).length ≤ (c + 1) * 5 := by
 have hl := join_len (mkW m) c (fun w hw => by
  obtain ⟨h1, h2, h3, h4⟩ := hI
  have l1 := itoa_len h1; have l2 := itoa_len h2; have l3 := itoa_len h3; have l4 := itoa_len h4
  have lo : m.old.data.toList.length ≤ c := ho
  have ln : m.new.data.toList.length ≤ c := hn
  have hN : ∀ j, (nmB j).data.toList.length ≤ c := fun j => Nat.le_trans (nmB_len j) (by omega)
  unfold mkW at hw
  repeat' split at hw
  all_goals (simp only [List.mem_cons, List.not_mem_nil, or_false] at hw)
  all_goals (first | (rcases hw with rfl | rfl | rfl | rfl | rfl) | (rcases hw with rfl | rfl | rfl | rfl) | (rcases hw with rfl | rfl | rfl) | exact hw.elim)
  all_goals (first | exact hN _ | exact lo | exact ln | exact Nat.le_trans l1 (by omega) | exact Nat.le_trans l2 (by omega) | exact Nat.le_trans l3 (by omega) | exact Nat.le_trans l4 (by omega)))
 have hw5 : (mkW m).length ≤ 5 := by
  unfold mkW
  repeat' split
  all_goals (simp only [List.length_cons, List.length_nil]; omega)
 exact Nat.le_trans hl (Nat.mul_le_mul_left (c + 1) hw5)
/-- the text of marks. -/
def lT : List Mk → List UInt8
 | [] => []
 | m :: l => mkT m ++ 10 :: lT l
theorem lT_app (a b : List Mk) : lT (a ++ b) = lT a ++ lT b := by
 induction a with
 | nil => rfl
 | cons m a ih => rw [List.cons_append, lT, lT, ih]; simp
theorem lT_succ {l : List Mk} {k : Nat} (h : k < l.length) : lT (l.take (k + 1)) = lT (l.take k) ++ (mkT l[k] ++ [10]) := by
 rw [List.take_succ_eq_append_getElem h, lT_app]; simp [lT]
def MkP (m : Mk) : Prop := MkI m ∧ m.old.size ≤ 1000 ∧ m.new.size ≤ 1000
theorem lT_len : ∀ {l : List Mk}, (∀ m ∈ l, MkP m) → (lT l).length ≤ 6000 * l.length
 | [], _ => by simp [lT]
 | m :: l, h => by
  have ih := lT_len (l := l) (fun x hx => h x (by simp [hx]))
  obtain ⟨h1, h2, h3⟩ := h m (by simp)
  have := mkT_len h1 (c := 1000) (by decide) h2 h3
  simp only [lT, List.length_append, List.length_cons]; omega
/-- what Print answers. -/
def prtL (l : List Mk) : ByteArray × Int := if lstErr l = 0 then (bs (lT l), 0) else (em, lstErr l)
def bldX : Nat → SV
 | 0 => .v (.pointer none)
 | _ + 1 => .box 0 0
theorem bldX_eq : bldX 0 = .v (.pointer none) ∧ (∀ k, bldX (k + 1) = .box 0 0) ∧ byE [] = [] := ⟨rfl, fun _ => rfl, rfl⟩
theorem bldX_or (k : Nat) : bldX k = .v (.pointer none) ∨ bldX k = .box 0 0 := by
 cases k
 ·exact .inl rfl
 ·exact .inr rfl
set_option maxHeartbeats 8000000 in
theorem print_s (b : Bool) (l : List Mk) (hz : AllMk l) (hP : ∀ m ∈ l, MkP m) (hl : l.length ≤ 1000) : CtrK glob Tryz.prog 10 [.sl b 7 (l.map eM)] (fun rr => rr = ⟨.tup [(.v (.string ((prtL l).1))), (.v (.int .i64 ((prtL l).2)))], []⟩) := by
 have encs := And.intro encs (And.intro (show ∀ p, eML p = [.sl p.1 7 (p.2.map eM)] from fun _ => rfl) bldX_eq)
 have hL : lstsErr [(b, l)] = lstErr l := by simp only [lstsErr]; split <;> simp_all
 have hC := checkMarks_s false [(b, l)] (by simpa using ⟨hz, by omega⟩) (by simp)
 rw [hL] at hC
 refine CtrK.of (rs := [.tmp 2, .tmp 3]) Tok true Tryz.func10 rfl rfl rfl rfl (by simp [ofDL]) (fun w0 kp hgl => ?_)
 simp only [↓sx0, sxE, encs, sevalprocAttr]
 refine CallI.fn (hC) (by simp only [sx3, encs, sxR, sevalprocAttr] <;> (try simp) <;> (try rfl)) ?_
 simp only [↓sx0, sxE, encs, sevalprocAttr]
 refine BrW.dec (fun he => ?_) (fun he => ?_)
 ·rw [show prtL l = (em, lstErr l) by rw [prtL, if_neg he]]
  simp only [↓sx0, sxE, encs, sevalprocAttr]
  refine EndW.fn ?_ ?_ <;> simp only [sx4, encs, kpLL_map, sxR, sevalprocAttr] <;> (try simp [em]) <;> (try omega)
 ·have he : lstErr l = 0 := Decidable.not_not.1 he
  rw [show prtL l = (bs (lT l), 0) by rw [prtL, if_pos he]]
  by_cases hn : l = []
  ·subst hn
   simp only [↓sx0, sxE, encs, sevalprocAttr]
   refine LoopW.comp [5, 14, 15, 16] (by simp only [sx2, encs, sxR, sevalprocAttr] <;> (try simp) <;> (try omega)) ?_
   simp only [sx2, sxR, sevalprocAttr]
   refine LoopW.up Tok (fun k : Nat => [(16, (.v (.int .i64 0)))]) (fun k => []) (fun k => []) (fun k => []) (fun k => True) (fun k => 0) (0) (by simp only [sx2, encs, sxR, sevalprocAttr] <;> (try simp) <;> (try omega)) ?_ ?_
   ·trivial
   rintro k -
   simp only [↓sx0, sxE, encs, sevalprocAttr]
   refine CallI.bstr0 bstr_s rfl ?_
   simp only [↓sx0, sxE, encs, sevalprocAttr]
   refine EndW.fn ?_ ?_ <;> simp only [sx4, encs, kpLL_map, sxR, sevalprocAttr] <;> (try simp [lT, bs]) <;> (try omega)
  ·simp only [↓sx0, sxE, encs, sevalprocAttr]
   refine LoopW.comp [5, 14, 15, 16] (by simp only [sx2, encs, sxR, sevalprocAttr] <;> (try simp) <;> (try omega)) ?_
   simp only [sx2, sxR, sevalprocAttr]
   refine LoopW.up Tok (fun k : Nat => [(16, (.v (.int .i64 ((k : Int)))))]) (fun k => [(0, [bldX k, .row 0])]) (fun k => []) (fun k => [.own 5 1 (byE (lT (l.take k)))]) (fun k => k ≤ l.length) (fun k => l.length - k) (0) (by simp only [sx2, encs, sxR, sevalprocAttr] <;> (try simp [byE, lT, encs]) <;> (try omega)) ?_ ?_
   ·omega
   rintro k hk
   simp only [↓sx0, sxE, encs, sevalprocAttr]
   refine BrW.dec (fun hlt => ?_) (fun hlt => ?_)
   ·simp only [↓sx0, sxE, encs, sevalprocAttr]
    have hkl : k < l.length := by omega
    refine IxW.nat hkl ?_
    simp only [↓sx0, sxE, encs, sevalprocAttr]
    have hPk := hP _ (List.getElem_mem hkl)
    have hT := mkT_len hPk.1 (c := 1000) (by decide) hPk.2.1 hPk.2.2
    have hTs := bs_size (mkT l[k] ++ [10])
    have hLk : (lT (l.take k)).length ≤ 6000 * 1000 := Nat.le_trans (lT_len fun m hm => hP m (List.mem_of_mem_take hm)) (Nat.mul_le_mul_left _ (by rw [List.length_take]; omega))
    have hsucc := lT_succ hkl
    simp only [List.length_append, List.length_singleton] at hTs
    refine CallI.fnK (formatMark_s l[k] hPk.1 hPk.2.1 hPk.2.2) glob_ok hgl rfl (by simp only [sx3, encs, sxR, sevalprocAttr] <;> (try simp) <;> (try rfl)) ?_
    simp only [↓sx0, sxE, encs, sevalprocAttr]
    have hTz := bs_size (mkT l[k])
    have hs1 := sz10
    repeat ((with_reducible refine Vc.go ?_ fun _ => ?_); (focus (first | omega | (simp only [InK]; omega) | (simp [InK] <;> omega))); simp only [↓sx0, sxE, encs, sevalprocAttr])
    rw [b10, bs_add]
    refine CallI.wstr wstr_s rfl (bldX_or k) rfl (by omega) ?_
    rw [bs_toList, ← hsucc]
    generalize l[k] = x at *
    simp only [↓sx0, sxE, encs, sevalprocAttr]
    repeat ((with_reducible refine Vc.go ?_ fun _ => ?_); (focus (first | omega | (simp only [InK]; omega) | (simp [InK] <;> omega))); simp only [↓sx0, sxE, encs, sevalprocAttr])
    refine ⟨k + 1, StLe.auto (by simp only [sx2, encs, sxR, sevalprocAttr] <;> (try simp) <;> (try omega)), ?_, ?_⟩
    ·omega
    ·omega
   ·simp only [↓sx0, sxE, encs, sevalprocAttr]
    have hke : k = l.length := by omega
    subst hke
    rw [List.take_length]
    refine CallI.bstr bstr_s rfl rfl (fun e => ?_) ?_
    ·cases l with
     | nil => exact hn rfl
     | cons m l => simp [lT] at e
    ·simp only [↓sx0, sxE, encs, sevalprocAttr]
     refine EndW.fn ?_ ?_ <;> simp only [sx4, encs, kpLL_map, sxR, sevalprocAttr] <;> (try simp [bs]) <;> (try omega)
end Go.Proofs.YtgcmppghjfidfaaGreatDoor
/-
 Chapter 8, walks: lists of marks read.
-/
namespace Go.Proofs.YtgcmppghjfidfaaGreatDoor
open Go Go.Vx
set_option maxRecDepth 20000
/-- what is read of the pieces between the ends of lines, behind marks that were read. -/
def prsL (acc : List Mk) : List (List UInt8) → List Mk × Int × Int
 | [] => (acc, 0, 0)
 | [l] => if l = [] then (if 60 < acc.length then ([], 0, 8) else (acc, 0, 0)) else ([], (acc.length : Int) + 1, 7)
 | p :: q :: ps => if (prsM nuR p).2 = 0 then prsL (acc ++ [(prsM nuR p).1]) (q :: ps) else ([], (acc.length : Int) + 1, (prsM nuR p).2)
/-- what Parse answers. -/
def parL (s : List UInt8) : List Mk × Int × Int := if 60000 < s.length then ([], 0, 8) else prsL [] (cutL 10 [] s)
theorem finL_get : ∀ {ps : List (List UInt8)} {n : Nat} {x : List UInt8}, (finL ps)[n]? = some x → ∃ p rest, ps.drop n = p :: rest ∧ ((rest = [] ∧ p ≠ [] ∧ x = p) ∨ (∃ q qs, rest = q :: qs ∧ x = p ++ [10]))
 | [], n, x, h => by simp [finL] at h
 | [l], n, x, h => by
  rw [finL] at h
  split at h
  ·simp at h
  ·rename_i hl
   cases n with
   | zero => simp at h; subst h; exact ⟨l, [], rfl, .inl ⟨rfl, hl, rfl⟩⟩
   | succ n => simp at h
 | p :: q :: ps, 0, x, h => by
  rw [finL] at h
  simp at h
  exact ⟨p, q :: ps, rfl, .inr ⟨q, ps, rfl, h.symm⟩⟩
 | p :: q :: ps, n + 1, x, h => by
  rw [finL] at h
  exact finL_get (ps := q :: ps) (n := n) (by simpa using h)
theorem finL_end : ∀ {ps : List (List UInt8)}, (finL ps).length < ps.length → ps.drop (finL ps).length = [[]]
 | [], h => by simp at h
 | [l], h => by
  by_cases hl : l = []
  ·subst hl; rfl
  ·rw [finL, if_neg hl] at h; simp at h
 | p :: q :: ps, h => by
  rw [finL] at h ⊢
  simp only [List.length_cons] at h ⊢
  exact finL_end (ps := q :: ps) (by simpa using h)
theorem cutL_not {c : UInt8} : ∀ {l acc w : List UInt8}, ¬ c ∈ acc → w ∈ cutL c acc l → ¬ c ∈ w
 | [], acc, w, ha, h => by
  simp only [cutL, List.mem_singleton] at h
  rw [h]; exact ha
 | b :: l, acc, w, ha, h => by
  rw [cutL] at h
  split at h
  ·rcases List.mem_cons.1 h with rfl | h
   ·exact ha
   ·exact cutL_not (by simp) h
  ·rename_i hb
   exact cutL_not (fun e => by
    rcases List.mem_append.1 e with e | e
    ·exact ha e
    ·simp at e; exact hb e.symm) h
def accN (ps : List (List UInt8)) (n : Nat) : List Mk := (ps.take n).map fun p => (prsM nuR p).1
theorem accN_len {ps : List (List UInt8)} {n : Nat} (h : n ≤ ps.length) : (accN ps n).length = n := by simp [accN]; omega
theorem accN_succ {ps : List (List UInt8)} {n : Nat} {p : List UInt8} {r : List (List UInt8)} (h : ps.drop n = p :: r) : accN ps (n + 1) = accN ps n ++ [(prsM nuR p).1] := by
 have hn : n < ps.length := by
  have := congrArg List.length h
  simp at this; omega
 have hp : ps[n] = p := by
  have := List.drop_eq_getElem_cons hn
  rw [h] at this; exact (List.cons.inj this).1.symm
 rw [accN, List.take_succ_eq_append_getElem hn, List.map_append, hp]; rfl
/-- so many lines were right. -/
def JL (ps : List (List UInt8)) (n : Nat) : Prop := n < ps.length ∧ prsL [] ps = prsL (accN ps n) (ps.drop n)
set_option maxHeartbeats 16000000 in
theorem parse_s (s : List UInt8) (hs : (s.length ≤ 60000 ∧ ∀ w ∈ cutL 10 [] s, w.length ≤ 1000) ∨ 60000 < s.length ∧ s.length ≤ 1000000) : CtrK glob Tryz.prog 12 [(.v (.string (bs s)))] (fun rr => rr = ⟨.tup [.sl true 7 ((parL s).1.map eM), (.v (.int .i64 ((parL s).2.1))), (.v (.int .i64 ((parL s).2.2)))], []⟩) := by
 have hsz := bs_size s
 have encs := And.intro encs lnY_def
 refine CtrK.of (rs := [.cell 2 23, .cell 3 3, .cell 4 30]) Tok true Tryz.func12 rfl rfl rfl rfl (by simp [ofDL]) (fun w0 kp hgl => ?_)
 simp only [↓sx0, sxE, encs, sevalprocAttr]
 refine BrW.dec (fun hbig => ?_) (fun hbig => ?_)
 ·rw [show parL s = ([], 0, 8) by rw [parL, if_pos (by omega)]]
  simp only [↓sx0, sxE, encs, sevalprocAttr]
  refine EndW.fn ?_ ?_ <;> simp only [sx4, encs, kpLL_map, sxR, sevalprocAttr] <;> (try simp) <;> (try omega)
 ·have hs : s.length ≤ 60000 ∧ ∀ w ∈ cutL 10 [] s, w.length ≤ 1000 := by
   rcases hs with hs | hs
   ·exact hs
   ·omega
  obtain ⟨hs, hs2⟩ := hs
  rw [show parL s = prsL [] (cutL 10 [] s) by rw [parL, if_neg (by omega)]]
  simp only [↓sx0, sxE, encs, sevalprocAttr]
  refine CallI.inl (rs := [.tmp 2]) Tok Tryz.func45 rfl rfl rfl rfl (by simp) (fun ρ σ μ fr lp => ?_)
  simp only [↓sx0, sxE, encs, sevalprocAttr]
  have hps : ∃ ps, ps = cutL 10 [] s := ⟨_, rfl⟩
  obtain ⟨ps, hps⟩ := hps
  have hit := linesIt_s s (by omega)
  have hln : ∀ w ∈ ps, w.length ≤ 1000 ∧ ¬ (10 : UInt8) ∈ w := fun w hw => by
   rw [hps] at hw
   exact ⟨hs2 w hw, cutL_not (by simp) hw⟩
  have hlns : lnsL s = finL ps := by rw [lnsL, hps]
  have hpl : ps.length ≤ s.length + 1 := by rw [hps, cutL_len]; have := List.count_le_length (a := (10 : UInt8)) (l := s); omega
  have hpn : 0 < ps.length := by rw [hps, cutL_len]; omega
  rw [← hps]
  rw [hlns] at hit
  have encs := And.intro encs (And.intro sxFb (show accN ps 0 = [] from rfl))
  refine RangeW.itB (k := 4) rfl Tok (fun _ => rfl) (fun hro => by first | rfl | exact (by rw [hro] at *; contradiction)) hit [(2, .box 0 0), (3, .box 1 0), (4, .box 2 0), (5, .box 3 0), (15, .clo 75 [.box 4 0])]
   [some ⟨23, [.v (.slice none 0 0)]⟩, some ⟨3, [(.v (.int .i64 0))]⟩, some ⟨30, [(.v (.int .i64 0))]⟩, some ⟨23, [.row 0]⟩, some ⟨9, [(.v (.string (bs s)))]⟩]
   (fun _ => [some ⟨23, [.v (.slice none 0 0)]⟩, some ⟨3, [(.v (.int .i64 0))]⟩, some ⟨30, [(.v (.int .i64 0))]⟩, some ⟨23, [.row 0]⟩, none])
   (fun ys => [.own 78 7 ((accN ps ys.length).map eM)]) (fun ys => JL ps ys.length) ⟨hpn, rfl⟩ (by simp only [sx2, encs, sxR, sevalprocAttr] <;> (try simp) <;> (try omega)) rfl rfl rfl rfl rfl (by simp [lnY]) ?_ (fun hJall => ?_)
  ·rintro pre d hpre ⟨hn, hJ⟩ ρ σ μ ho' hy hs'
   obtain ⟨yd', ro, mks, fr, lp, sz⟩ := ho'
   obtain ⟨q, hq⟩ := hpre
   have hget : ((finL ps).map lnY)[pre.length]? = some d := by rw [← hq]; simp
   rw [List.getElem?_map] at hget
   obtain ⟨x, hx, rfl⟩ := Option.map_eq_some_iff.1 hget
   obtain ⟨p, rest, hdr, hc⟩ := finL_get hx
   have hlen : (pre ++ [lnY x]).length = pre.length + 1 := by simp
   rw [hlen, accN_succ hdr]
   have hacc := accN_len (n := pre.length) (ps := ps) (by omega)
   have hpm : p ∈ ps := List.mem_of_mem_drop (i := pre.length) (by rw [hdr]; simp)
   obtain ⟨hp1, hp2⟩ := hln p hpm
   rw [hdr] at hJ
   have hsuc := accN_succ hdr
   have cP := parseMark_s p (by omega)
   rw [prsM_same] at cP
   generalize accN ps pre.length = acc at *
   rcases hc with ⟨rfl, hpne, rfl⟩ | ⟨q', qs, rfl, rfl⟩
   ·rw [hJ, prsL, if_neg hpne]
    rw [lnY_def]
    simp only [↓sx0, sxE, encs, sevalprocAttr]
    intro fr' hfr
    refine CallI.fn (cutSuf_no x hpne hp2 (by omega)) (by simp only [sx3, encs, sxR, sevalprocAttr] <;> (try simp) <;> (try rfl)) ?_
    simp only [↓sx0, sxE, encs, sevalprocAttr]
    refine CallI.fnKI (cP) glob_ok hgl rfl hfr (by simp only [sx3, encs, sxR, sevalprocAttr] <;> (try simp) <;> (try rfl)) ?_
    simp only [↓sx0, sxE, encs, sevalprocAttr]
    refine DrawW.plan Tok mixed (.q 0 <| .q 1 <| .q 2 <| .q 3 <| .e 4 [0] <| .e 5 [] <| .e 6 [] <| .done) (by kernel_rfl) (by kernel_rfl) ?_
    simp only [↓sx0, sxE, encs, sevalprocAttr]
    repeat ((with_reducible refine Vc.go ?_ fun _ => ?_); (focus (first | omega | (simp only [InK]; omega) | (simp [InK] <;> omega))); simp only [↓sx0, sxE, encs, sevalprocAttr])
    rw [hacc]
    refine EndW.fn ?_ ?_ <;> simp only [sx4, encs, kpLL_map, sxR, sevalprocAttr] <;> (try simp) <;> (try omega)
   ·rw [lnY_def]
    simp only [↓sx0, sxE, encs, sevalprocAttr]
    intro fr' hfr
    refine CallI.fn (cutSuf_yes p (by omega)) (by simp only [sx3, encs, sxR, sevalprocAttr] <;> (try simp) <;> (try rfl)) ?_
    simp only [↓sx0, sxE, encs, sevalprocAttr]
    refine CallI.fnKI (cP) glob_ok hgl rfl hfr (by simp only [sx3, encs, sxR, sevalprocAttr] <;> (try simp) <;> (try rfl)) ?_
    simp only [↓sx0, sxE, encs, sevalprocAttr]
    refine BrW.dec (fun he => ?_) (fun he => ?_)
    ·rw [hJ, prsL, if_neg he, hacc]
     simp only [↓sx0, sxE, encs, sevalprocAttr]
     refine DrawW.plan Tok mixed (.q 0 <| .q 1 <| .q 2 <| .q 3 <| .e 4 [0] <| .e 5 [] <| .e 6 [] <| .done) (by kernel_rfl) (by kernel_rfl) ?_
     simp only [↓sx0, sxE, encs, sevalprocAttr]
     repeat ((with_reducible refine Vc.go ?_ fun _ => ?_); (focus (first | omega | (simp only [InK]; omega) | (simp [InK] <;> omega))); simp only [↓sx0, sxE, encs, sevalprocAttr])
     refine EndW.fn ?_ ?_ <;> simp only [sx4, encs, kpLL_map, sxR, sevalprocAttr] <;> (try simp) <;> (try omega)
    ·simp only [↓sx0, sxE, encs, sevalprocAttr]
     repeat ((with_reducible refine Vc.go ?_ fun _ => ?_); (focus (first | omega | (simp only [InK]; omega) | (simp [InK] <;> omega))); simp only [↓sx0, sxE, encs, sevalprocAttr])
     refine ⟨⟨?_, ?_⟩, ?_⟩
     ·have := congrArg List.length hdr
      simp at this; omega
     ·rw [hJ, prsL, if_pos (Decidable.not_not.1 he), ← List.drop_drop, hdr, hsuc]
      rfl
     ·simp only [sx2, encs, sxR, sevalprocAttr] <;> (try simp) <;> (try omega)
      rfl
  ·obtain ⟨hn, hJ⟩ := hJall
   rw [List.length_map] at hn hJ
   rw [finL_end hn, prsL, if_pos rfl, accN_len (by omega)] at hJ
   have hal := accN_len (n := (finL ps).length) (ps := ps) (by omega)
   rw [hJ, List.length_map]
   simp only [↓sx0, sxE, encs, sevalprocAttr]
   rw [hal]
   refine BrW.dec (fun hb => ?_) (fun hb => ?_)
   ·rw [if_pos (by omega)]
    simp only [↓sx0, sxE, encs, sevalprocAttr]
    refine EndW.fn ?_ ?_ <;> simp only [sx4, encs, kpLL_map, sxR, sevalprocAttr] <;> (try simp) <;> (try omega)
   ·rw [if_neg (by omega)]
    simp only [↓sx0, sxE, encs, sevalprocAttr]
    refine EndW.fn ?_ ?_ <;> simp only [sx4, encs, kpLL_map, sxR, sevalprocAttr] <;> (try simp) <;> (try omega)
end Go.Proofs.YtgcmppghjfidfaaGreatDoor
/-
 Chapter 8, walks: lists of marks written and read (reference).
-/
namespace Go.Proofs.YtgcmppghjfidfaaGreatDoor
open Go Go.Vx
set_option maxRecDepth 20000
end Go.Proofs.YtgcmppghjfidfaaGreatDoor
/-
 Chapter 8: lists of marks are read back.
-/
namespace Go.Proofs.YtgcmppghjfidfaaGreatDoor
open Go Go.Vx
theorem mk_no {m : Mk} (h : mkErr m = 0) : ¬ (10 : UInt8) ∈ mkT m := fun hc => by
 have h1 := mk_back h
 unfold prsM at h1
 rw [if_pos hc] at h1
 exact absurd (congrArg Prod.snd h1) (by simp)
theorem cut_lT : ∀ {l : List Mk}, (∀ m ∈ l, mkErr m = 0) → cutL 10 [] (lT l) = l.map mkT ++ [[]]
 | [], _ => rfl
 | m :: l, h => by
  rw [lT, cut_hit (mkT m) [] (lT l) (mk_no (h m (by simp))), cut_lT fun x hx => h x (List.mem_cons_of_mem _ hx)]
  rfl
theorem prsL_back : ∀ (l acc : List Mk), (∀ m ∈ l, mkErr m = 0) → prsL acc (l.map mkT ++ [[]]) = if 60 < (acc ++ l).length then ([], 0, 8) else (acc ++ l, 0, 0)
 | [], acc, _ => by rw [List.append_nil]; rfl
 | m :: l, acc, h => by
  have h1 := mk_back (h m (by simp))
  obtain ⟨q, qs, hq⟩ : ∃ q qs, l.map mkT ++ [[]] = q :: qs := by
   cases l with
   | nil => exact ⟨_, _, rfl⟩
   | cons x l => exact ⟨_, _, rfl⟩
  have ih := prsL_back l (acc ++ [m]) fun x hx => h x (List.mem_cons_of_mem _ hx)
  rw [hq] at ih
  rw [List.map_cons, List.cons_append, hq, prsL, h1, if_pos rfl]
  simp only
  rw [ih]
  simp
theorem lstE_all : ∀ {l : List Mk}, lstE l = 0 → ∀ m ∈ l, mkErr m = 0
 | [], _, m, hm => by simp at hm
 | x :: l, h, m, hm => by
  rw [lstE] at h
  split at h
  ·rename_i hx
   rcases List.mem_cons.1 hm with rfl | hm
   ·exact hx
   ·exact lstE_all h m hm
  ·rename_i hx; exact absurd h hx
theorem lT_len40 : ∀ {l : List Mk}, (∀ m ∈ l, MkI m ∧ m.old.size ≤ 40 ∧ m.new.size ≤ 40) → (lT l).length ≤ 206 * l.length
 | [], _ => by simp [lT]
 | m :: l, h => by
  have ih := lT_len40 (l := l) (fun x hx => h x (by simp [hx]))
  obtain ⟨h1, h2, h3⟩ := h m (by simp)
  have := mkT_len h1 (c := 40) (by decide) h2 h3
  simp only [lT, List.length_append, List.length_cons]; omega
theorem par_back {l : List Mk} (h : lstErr l = 0) (hb : ∀ m ∈ l, MkI m ∧ m.old.size ≤ 40 ∧ m.new.size ≤ 40) : parL (lT l) = (l, 0, 0) ∧ (lT l).length ≤ 60000 ∧ ∀ w ∈ cutL 10 [] (lT l), w.length ≤ 1000 := by
 have hlen : l.length ≤ 60 := by
  unfold lstErr at h
  split at h
  ·omega
  ·omega
 have hall : ∀ m ∈ l, mkErr m = 0 := lstE_all (by
  unfold lstErr at h
  rw [if_neg (by omega)] at h; exact h)
 have hL := lT_len40 hb
 refine ⟨?_, by omega, fun w hw => ?_⟩
 ·rw [parL, if_neg (by omega), cut_lT hall, prsL_back l [] hall, if_neg (by simpa using hlen)]; rfl
 ·rw [cut_lT hall] at hw
  rcases List.mem_append.1 hw with hw | hw
  ·obtain ⟨m, hm, rfl⟩ := List.mem_map.1 hw
   obtain ⟨h1, h2, h3⟩ := hb m hm
   have := mkT_len h1 (c := 40) (by decide) h2 h3
   omega
  ·simp at hw; subst hw; simp
end Go.Proofs.YtgcmppghjfidfaaGreatDoor
/-
 Chapter 8, walks: copies of lists.
-/
namespace Go.Proofs.YtgcmppghjfidfaaGreatDoor
open Go Go.Vx
set_option maxRecDepth 20000
theorem copyTexts_s (b : Bool) (l : List ByteArray) (hl : l.length ≤ 1000000) : Ctr Tryz.prog 51 [.sl b 1 (l.map eS)] (fun rr => rr = ⟨.sl true 1 (l.map eS), []⟩) := by
 refine Ctr.of (rs := [.tmp 2]) Tok true Tryz.func51 rfl rfl rfl rfl (by simp [ofDL]) (fun w0 kp => ?_)
 simp only [↓sx0, xE, sevalprocAttr]
 repeat ((with_reducible refine Vc.go ?_ fun _ => ?_); (focus (first | omega | (simp only [InK]; omega) | (simp [InK] <;> omega))); simp only [↓sx0, xE, sevalprocAttr])
 refine EndW.fn ?_ ?_ <;> simp only [sx4, xK, sevalprocAttr] <;> (try simp) <;> (try omega)
def szB (s : ByteArray) : Bool := decide (s.size ≤ 40)
end Go.Proofs.YtgcmppghjfidfaaGreatDoor
/-
 Chapter 8, walks: copies of copies, and whether they are the same.
-/
namespace Go.Proofs.YtgcmppghjfidfaaGreatDoor
open Go Go.Vx
set_option maxRecDepth 20000
theorem copyOf_s (b b2 : Bool) (l : List Pt) (hl : l.length ≤ 1000000) (hw : ∀ p ∈ l, p.words.length ≤ 1000000) : Ctr Tryz.prog 15 [.sl b 2 (l.map (eP b2))] (fun rr => rr = ⟨.sl true 2 (l.map (eP true)), []⟩) := by
 refine Ctr.of (rs := [.tmp 2]) Tok true Tryz.func15 rfl rfl rfl rfl (by simp [ofDL]) (fun w0 kp => ?_)
 simp only [↓sx0, xE, sevalprocAttr]
 refine LoopW.inv Tok (fun k : Nat => ⟨[(3, .row 0), (4, (.v (.int .i64 k))), (0, .sl b 2 (l.map (eP b2)))], [], [.own 81 2 ((l.take k).map (eP true))]⟩) (fun k => k ≤ l.length) (fun k => l.length - k) 0 (StLe.auto ?_) (Nat.zero_le _) ?_
 ·simp only [List.take_zero, List.map_nil]
  simp only [sx2, xR, sevalprocAttr] <;> (try simp) <;> (try omega)
 rintro k hk
 simp only [↓sx0, xE, sevalprocAttr]
 refine BrW.dec (fun hlt => ?_) (fun hlt => ?_)
 ·simp only [↓sx0, xE, sevalprocAttr]
  have hkl : k < l.length := by omega
  refine DrawW.plan Tok mixed (.q 0 <| .q 1 <| .q 2 <| .q 3 <| .q 4 <| .q 5 <| .q 6 <| .q 7 <| .q 8 <| .q 9 <| .q 10 <| .e 11 [5] <| .q 12 <| .e 13 [] <| .e 14 [] <| .q 15 <| .done) (by kernel_rfl) (by kernel_rfl) ?_
  simp only [↓sx0, xE, sevalprocAttr]
  refine IxW.nat hkl ?_
  simp only [↓sx0, xE, sevalprocAttr]
  refine IxW.nat hkl ?_
  simp only [↓sx0, xE, sevalprocAttr]
  refine CallI.fn (copyTexts_s b2 l[k].words (hw _ (List.getElem_mem hkl))) (by simp only [sx3, xR, sevalprocAttr] <;> (try simp) <;> (try rfl)) ?_
  simp only [↓sx0, xE, sevalprocAttr]
  repeat ((with_reducible refine Vc.go ?_ fun _ => ?_); (focus (first | omega | (simp only [InK]; omega) | (simp [InK] <;> omega))); simp only [↓sx0, xE, sevalprocAttr])
  have hf : (l.take k).map (eP true) ++ [eP true l[k]] = (l.take (k + 1)).map (eP true) := by rw [List.take_succ_eq_append_getElem hkl, List.map_append]; rfl
  refine ⟨k + 1, StLe.auto ?_, by omega, by omega⟩
  simp only [← hf]
  simp only [sx2, xR, sevalprocAttr] <;> (try simp) <;> (try omega)
 ·simp only [↓sx0, xE, sevalprocAttr]
  have hke : k = l.length := by omega
  subst hke
  rw [List.take_length]
  have hkp := kpP l
  refine EndW.fn ?_ ?_ <;> simp only [sx4, xK, sevalprocAttr] <;> (try simp [hkp]) <;> (try omega)
end Go.Proofs.YtgcmppghjfidfaaGreatDoor
/-
 Chapter 8, walks: the reference's lists one behind the other; its parts of a copy.
-/
namespace Go.Proofs.YtgcmppghjfidfaaGreatDoor
open Go Go.Vx
set_option maxRecDepth 20000
theorem checkPartsR_s (b b2 : Bool) (l : List Pt) (hl : l.length ≤ 1000000) (hw : ∀ p ∈ l, p.words.length ≤ 1000000 ∧ ∀ s ∈ p.words, s.size ≤ 1000000000) : Ctr Tryz.prog 9 [.sl b 2 (l.map (eP b2))] (fun rr => rr = ⟨.tup [(.v (.int .i64 ((partsErr l).1))), (.v (.int .i64 ((partsErr l).2)))], []⟩) := by
 refine Ctr.of (rs := [.tmp 2, .tmp 3]) Tok true Tryz.func9 rfl rfl rfl rfl (by simp [ofDL]) (fun w0 kp => ?_)
 simp only [↓sx0, xE, sevalprocAttr]
 refine BrW.dec (fun h60 => ?_) (fun h60 => ?_)
 ·simp only [↓sx0, xE, sevalprocAttr]
  rw [show partsErr l = (0, 8) by rw [partsErr, if_pos (by omega)]]
  refine EndW.fn ?_ ?_ <;> simp only [sx4, xK, sevalprocAttr] <;> (try simp) <;> (try omega)
 ·rw [show partsErr l = partsE 0 l by rw [partsErr, if_neg (by omega)]]
  simp only [↓sx0, xE, sevalprocAttr]
  refine LoopW.comp [0, 4] (by simp only [sx2, xR, sevalprocAttr] <;> (try simp) <;> (try omega)) ?_
  simp only [sx2, sxR, sevalprocAttr]
  refine LoopW.up Tok (fun k : Nat => [(4, (.v (.int .i64 k)))]) (fun k => []) (fun k => []) (fun k => []) (fun k => k ≤ l.length ∧ partsE k (l.drop k) = partsE 0 l) (fun k => l.length - k) (0) (by simp only [sx2, xR, sevalprocAttr] <;> (try simp) <;> (try omega)) ?_ ?_
  ·exact ⟨by omega, rfl⟩
  rintro k ⟨hk, ht⟩
  simp only [↓sx0, xE, sevalprocAttr]
  refine BrW.dec (fun hlt => ?_) (fun hlt => ?_)
  ·simp only [↓sx0, xE, sevalprocAttr]
   have hlt : k < l.length := by omega
   have he := partsE_at hlt ht
   obtain ⟨w1, w2⟩ := hw _ (List.getElem_mem hlt)
   refine IxW.nat hlt ?_
   simp only [↓sx0, xE, sevalprocAttr]
   refine CallI.fn (withinB_s l[k].kind 1 3) (by simp only [sx3, xR, sevalprocAttr] <;> (try simp) <;> (try rfl)) ?_
   simp only [↓sx0, xE, sevalprocAttr]
   refine BrW.of (fun hkd => ?_) (fun hkd => ?_)
   ·have hkd : 1 ≤ l[k].kind ∧ l[k].kind ≤ 3 := by simpa using hkd
    simp only [↓sx0, xE, sevalprocAttr]
    refine IxW.nat hlt ?_
    simp only [↓sx0, xE, sevalprocAttr]
    refine BrW.dec (fun h0 => ?_) (fun h0 => ?_)
    ·simp only [↓sx0, xE, sevalprocAttr]
     rw [show partErr l[k] = 10 by rw [partErr, if_pos hkd, if_pos (by omega)], if_neg (by decide)] at he
     rw [he]
     refine EndW.fn ?_ ?_ <;> simp only [sx4, xK, sevalprocAttr] <;> (try simp) <;> (try omega)
    ·simp only [↓sx0, xE, sevalprocAttr]
     refine IxW.nat hlt ?_
     simp only [↓sx0, xE, sevalprocAttr]
     refine BrW.dec (fun h8 => ?_) (fun h8 => ?_)
     ·simp only [↓sx0, xE, sevalprocAttr]
      rw [show partErr l[k] = 8 by rw [partErr, if_pos hkd, if_neg (by omega), if_pos (by omega)], if_neg (by decide)] at he
      rw [he]
      refine EndW.fn ?_ ?_ <;> simp only [sx4, xK, sevalprocAttr] <;> (try simp) <;> (try omega)
     ·simp only [↓sx0, xE, sevalprocAttr]
      have hpe : partErr l[k] = if l[k].words.any badW = true ∨ isMk (l[k].words.headD hash) = true then 3 else 0 := by rw [partErr, if_pos hkd, if_neg (by omega), if_neg (by omega)]
      have hpos : 0 < l[k].words.length := by omega
      refine LoopW.comp [0, 4, 5] (by simp only [sx2, xR, sevalprocAttr] <;> (try simp) <;> (try omega)) ?_
      simp only [sx2, sxR, sevalprocAttr]
      refine LoopW.up Tok (fun j : Nat => [(5, (.v (.int .i64 j)))]) (fun j => []) (fun j => []) (fun j => []) (fun j => j ≤ l[k].words.length ∧ ∀ t (_ : t < j) (h2 : t < l[k].words.length), badW l[k].words[t] = false) (fun j => l[k].words.length - j) (0) (by simp only [sx2, xR, sevalprocAttr] <;> (try simp) <;> (try omega)) ?_ ?_
      ·exact ⟨by omega, fun t h => absurd h (Nat.not_lt_zero _)⟩
      rintro j ⟨hj, hjt⟩
      simp only [↓sx0, xE, sevalprocAttr]
      refine IxW.nat hlt ?_
      simp only [↓sx0, xE, sevalprocAttr]
      refine BrW.dec (fun hjl => ?_) (fun hjl => ?_)
      ·simp only [↓sx0, xE, sevalprocAttr]
       have hjl : j < l[k].words.length := by omega
       refine IxW.nat hlt ?_
       simp only [↓sx0, xE, sevalprocAttr]
       refine IxW.nat hjl ?_
       simp only [↓sx0, xE, sevalprocAttr]
       refine CallI.fn (isWordR_s l[k].words[j] (w2 _ (List.getElem_mem hjl))) (by simp only [sx3, xR, sevalprocAttr] <;> (try simp) <;> (try rfl)) ?_
       simp only [↓sx0, xE, sevalprocAttr]
       refine BrW.of (fun hb => ?_) (fun hb => ?_)
       ·simp only [↓sx0, xE, sevalprocAttr]
        repeat ((with_reducible refine Vc.go ?_ fun _ => ?_); (focus (first | omega | (simp only [InK]; omega) | (simp [InK] <;> omega))); simp only [↓sx0, xE, sevalprocAttr])
        refine ⟨j + 1, StLe.auto (by simp only [sx2, xR, sevalprocAttr] <;> (try simp) <;> (try omega)), ?_, ?_⟩
        ·refine ⟨hjl, fun t h h2 => ?_⟩
         by_cases e : t = j
         ·subst e; simp [badW, hb]
         ·exact hjt t (by omega) h2
        ·omega
       ·simp only [↓sx0, xE, sevalprocAttr]
        rw [show partErr l[k] = 3 by rw [hpe, if_pos (.inl (List.any_eq_true.2 ⟨_, List.getElem_mem hjl, by simp [badW, hb]⟩))], if_neg (by decide)] at he
        rw [he]
        refine EndW.fn ?_ ?_ <;> simp only [sx4, xK, sevalprocAttr] <;> (try simp) <;> (try omega)
      ·simp only [↓sx0, xE, sevalprocAttr]
       refine IxW.nat hlt ?_
       simp only [↓sx0, xE, sevalprocAttr]
       refine IxW.nat (j := 0) hpos ?_
       simp only [↓sx0, xE, sevalprocAttr]
       refine CallI.fn (isMarkR_s l[k].words[0]) (by simp only [sx3, xR, sevalprocAttr] <;> (try simp) <;> (try rfl)) ?_
       simp only [↓sx0, xE, sevalprocAttr]
       have hany : l[k].words.any badW = false := by
        rw [← Bool.not_eq_true, List.any_eq_true]
        rintro ⟨x, hx, hxb⟩
        obtain ⟨t, h2, rfl⟩ := List.getElem_of_mem hx
        rw [hjt t (by omega) h2] at hxb; cases hxb
       refine BrW.of (fun hm => ?_) (fun hm => ?_)
       ·simp only [↓sx0, xE, sevalprocAttr]
        rw [show partErr l[k] = 3 by rw [hpe, if_pos (.inr (by rw [headD_get hpos]; exact hm))], if_neg (by decide)] at he
        rw [he]
        refine EndW.fn ?_ ?_ <;> simp only [sx4, xK, sevalprocAttr] <;> (try simp) <;> (try omega)
       ·simp only [↓sx0, xE, sevalprocAttr]
        rw [show partErr l[k] = 0 by rw [hpe, if_neg (by rw [headD_get hpos, hany, hm]; simp)], if_pos rfl] at he
        repeat ((with_reducible refine Vc.go ?_ fun _ => ?_); (focus (first | omega | (simp only [InK]; omega) | (simp [InK] <;> omega))); simp only [↓sx0, xE, sevalprocAttr])
        refine ⟨k + 1, StLe.auto (by simp only [sx2, xR, sevalprocAttr] <;> (try simp) <;> (try omega)), ?_, ?_⟩
        ·exact ⟨hlt, he.symm⟩
        ·omega
   ·have hkd : ¬ (1 ≤ l[k].kind ∧ l[k].kind ≤ 3) := by simpa using hkd
    simp only [↓sx0, xE, sevalprocAttr]
    rw [show partErr l[k] = 15 by rw [partErr, if_neg hkd], if_neg (by decide)] at he
    rw [he]
    refine EndW.fn ?_ ?_ <;> simp only [sx4, xK, sevalprocAttr] <;> (try simp) <;> (try omega)
  ·simp only [↓sx0, xE, sevalprocAttr]
   have hke : k = l.length := by omega
   subst hke
   rw [List.drop_length] at ht
   rw [← ht]
   refine EndW.fn ?_ ?_ <;> simp only [sx4, xK, sevalprocAttr] <;> (try simp [partsE]) <;> (try omega)
end Go.Proofs.YtgcmppghjfidfaaGreatDoor
/-
 Chapter 8, walks: copies that are light.
-/
namespace Go.Proofs.YtgcmppghjfidfaaGreatDoor
open Go Go.Vx
set_option maxRecDepth 20000
def lenW (n : Nat) : Bool := decide (n ≤ 8) || (decide (100 < n) && decide (n ≤ 102))
def shrtB (l : List ByteArray) : Bool := lenW l.length && l.all szB
theorem shrt_bad {l : List ByteArray} {k : Nat} (h : k < l.length) (hb : szB l[k] = false) : shrtB l = false := by
 rw [shrtB, Bool.and_eq_false_iff]
 refine .inr ?_
 rw [← Bool.not_eq_true, List.all_eq_true]
 intro hc
 have := hc _ (List.getElem_mem h)
 rw [hb] at this; cases this
theorem shrt_all {l : List ByteArray} (h : shrtB l = true) : AllSz l ∧ l.length ≤ 102 := by
 simp only [shrtB, Bool.and_eq_true, List.all_eq_true] at h
 refine ⟨fun s hs => ?_, ?_⟩
 ·have := h.2 s hs
  simp only [szB, decide_eq_true_eq] at this; omega
 ·have := h.1
  simp only [lenW, Bool.or_eq_true, Bool.and_eq_true, decide_eq_true_eq] at this
  omega
theorem shortW_s (b : Bool) (l : List ByteArray) (hl : l.length ≤ maxLen) : Ctr Tryz.prog 36 [.sl b 1 (l.map eS), (.v (.int .i64 8)), (.v (.int .i64 100))] (fun rr => rr = ⟨(.v (.bool (shrtB l))), []⟩) := by
 simp only [maxLen] at hl
 refine Ctr.of (rs := [.tmp 6]) Tok true Tryz.func36 rfl rfl rfl rfl (by simp [ofDL]) (fun w0 kp => ?_)
 simp only [↓sx0, xE, sevalprocAttr]
 by_cases hf : lenW l.length = true
 ·have main : shrtB l = l.all szB := by rw [shrtB, hf, Bool.true_and]
  have hf2 := hf
  simp only [lenW, Bool.or_eq_true, Bool.and_eq_true, decide_eq_true_eq] at hf2
  rw [main]
  by_cases h8 : l.length ≤ 8
  ·repeat ((with_reducible refine BrW.no (by omega) ?_); simp only [↓sx0, xE, sevalprocAttr])
   repeat ((with_reducible refine Vc.go ?_ fun _ => ?_); (focus (first | omega | (simp only [InK]; omega) | (simp [InK] <;> omega))); simp only [↓sx0, xE, sevalprocAttr])
   repeat ((with_reducible refine BrW.no (by omega) ?_); simp only [↓sx0, xE, sevalprocAttr])
   refine LoopW.comp [0, 7] (by simp only [sx2, xR, sevalprocAttr] <;> (try simp) <;> (try omega)) ?_
   simp only [sx2, sxR, sevalprocAttr]
   refine LoopW.up Tok (fun k : Nat => [(7, (.v (.int .i64 k)))]) (fun k => []) (fun k => []) (fun k => []) (fun k => k ≤ l.length ∧ (l.take k).all szB = true) (fun k => l.length - k) (0) (by simp only [sx2, xR, sevalprocAttr] <;> (try simp) <;> (try omega)) ?_ ?_
   ·exact ⟨by omega, by simp⟩
   rintro k ⟨hk, ht⟩
   simp only [↓sx0, xE, sevalprocAttr]
   refine BrW.dec (fun hlt => ?_) (fun hlt => ?_)
   ·simp only [↓sx0, xE, sevalprocAttr]
    have hkl : k < l.length := by omega
    refine IxW.nat hkl ?_
    simp only [↓sx0, xE, sevalprocAttr]
    refine BrW.dec (fun hb => ?_) (fun hb => ?_)
    ·have := shrt_bad hkl (show szB l[k] = false by simp [szB]; omega)
     rw [main] at this
     simp only [↓sx0, xE, sevalprocAttr]
     refine EndW.fn ?_ ?_ <;> simp only [sx4, xK, sevalprocAttr] <;> (try simp [this]) <;> (try omega)
    ·simp only [↓sx0, xE, sevalprocAttr]
     repeat ((with_reducible refine Vc.go ?_ fun _ => ?_); (focus (first | omega | (simp only [InK]; omega) | (simp [InK] <;> omega))); simp only [↓sx0, xE, sevalprocAttr])
     refine ⟨k + 1, StLe.auto (by simp only [sx2, xR, sevalprocAttr] <;> (try simp) <;> (try omega)), ?_, ?_⟩
     ·exact ⟨hkl, by rw [List.take_succ_eq_append_getElem hkl, List.all_append, ht]; simp [szB]; omega⟩
     ·omega
   ·simp only [↓sx0, xE, sevalprocAttr]
    have hke : k = l.length := by omega
    subst hke
    rw [List.take_length] at ht
    refine EndW.fn ?_ ?_ <;> simp only [sx4, xK, sevalprocAttr] <;> (try simp [ht]) <;> (try omega)
  ·repeat ((first | (with_reducible refine BrW.yes (by omega) ?_) | (with_reducible refine BrW.no (by omega) ?_)); (try simp only [↓sx0, xE, sevalprocAttr]))
   repeat ((with_reducible refine Vc.go ?_ fun _ => ?_); (focus (first | omega | (simp only [InK]; omega) | (simp [InK] <;> omega))); simp only [↓sx0, xE, sevalprocAttr])
   repeat ((first | (with_reducible refine BrW.yes (by omega) ?_) | (with_reducible refine BrW.no (by omega) ?_)); (try simp only [↓sx0, xE, sevalprocAttr]))
   refine LoopW.comp [0, 7] (by simp only [sx2, xR, sevalprocAttr] <;> (try simp) <;> (try omega)) ?_
   simp only [sx2, sxR, sevalprocAttr]
   refine LoopW.up Tok (fun k : Nat => [(7, (.v (.int .i64 k)))]) (fun k => []) (fun k => []) (fun k => []) (fun k => k ≤ l.length ∧ (l.take k).all szB = true) (fun k => l.length - k) (0) (by simp only [sx2, xR, sevalprocAttr] <;> (try simp) <;> (try omega)) ?_ ?_
   ·exact ⟨by omega, by simp⟩
   rintro k ⟨hk, ht⟩
   simp only [↓sx0, xE, sevalprocAttr]
   refine BrW.dec (fun hlt => ?_) (fun hlt => ?_)
   ·simp only [↓sx0, xE, sevalprocAttr]
    have hkl : k < l.length := by omega
    refine IxW.nat hkl ?_
    simp only [↓sx0, xE, sevalprocAttr]
    refine BrW.dec (fun hb => ?_) (fun hb => ?_)
    ·have := shrt_bad hkl (show szB l[k] = false by simp [szB]; omega)
     rw [main] at this
     simp only [↓sx0, xE, sevalprocAttr]
     refine EndW.fn ?_ ?_ <;> simp only [sx4, xK, sevalprocAttr] <;> (try simp [this]) <;> (try omega)
    ·simp only [↓sx0, xE, sevalprocAttr]
     repeat ((with_reducible refine Vc.go ?_ fun _ => ?_); (focus (first | omega | (simp only [InK]; omega) | (simp [InK] <;> omega))); simp only [↓sx0, xE, sevalprocAttr])
     refine ⟨k + 1, StLe.auto (by simp only [sx2, xR, sevalprocAttr] <;> (try simp) <;> (try omega)), ?_, ?_⟩
     ·exact ⟨hkl, by rw [List.take_succ_eq_append_getElem hkl, List.all_append, ht]; simp [szB]; omega⟩
     ·omega
   ·simp only [↓sx0, xE, sevalprocAttr]
    have hke : k = l.length := by omega
    subst hke
    rw [List.take_length] at ht
    refine EndW.fn ?_ ?_ <;> simp only [sx4, xK, sevalprocAttr] <;> (try simp [ht]) <;> (try omega)
 ·have hf : lenW l.length = false := by simpa using hf
  have hf2 := hf
  simp only [lenW, Bool.or_eq_false_iff, Bool.and_eq_false_iff, decide_eq_false_iff_not] at hf2
  rw [show shrtB l = false by rw [shrtB, hf, Bool.false_and]]
  by_cases h8 : l.length ≤ 100
  ·repeat ((first | (with_reducible refine BrW.yes (by omega) ?_) | (with_reducible refine BrW.no (by omega) ?_)); (try simp only [↓sx0, xE, sevalprocAttr]))
   refine EndW.fn ?_ ?_ <;> simp only [sx4, xK, sevalprocAttr] <;> (try simp) <;> (try omega)
  ·repeat ((first | (with_reducible refine BrW.yes (by omega) ?_) | (with_reducible refine BrW.no (by omega) ?_)); (try simp only [↓sx0, xE, sevalprocAttr]))
   repeat ((with_reducible refine Vc.go ?_ fun _ => ?_); (focus (first | omega | (simp only [InK]; omega) | (simp [InK] <;> omega))); simp only [↓sx0, xE, sevalprocAttr])
   repeat ((first | (with_reducible refine BrW.yes (by omega) ?_) | (with_reducible refine BrW.no (by omega) ?_)); (try simp only [↓sx0, xE, sevalprocAttr]))
   refine EndW.fn ?_ ?_ <;> simp only [sx4, xK, sevalprocAttr] <;> (try simp) <;> (try omega)
def shrtP (p : Pt) : Bool := shrtB p.words
def lenP (n : Nat) : Bool := decide (n ≤ 5) || (decide (60 < n) && decide (n ≤ 62))
def lgtB (l : List Pt) : Bool := lenP l.length && l.all shrtP
theorem lgtB_bad {l : List Pt} {k : Nat} (h : k < l.length) (hb : shrtP l[k] = false) : lgtB l = false := by
 rw [lgtB, Bool.and_eq_false_iff]
 refine .inr ?_
 rw [← Bool.not_eq_true, List.all_eq_true]
 intro hc
 have := hc _ (List.getElem_mem h)
 rw [hb] at this; cases this
theorem light_s (b b2 : Bool) (l : List Pt) (hl : l.length ≤ maxLen) (hw : ∀ p ∈ l, p.words.length ≤ maxLen) : Ctr Tryz.prog 6 [.sl b 2 (l.map (eP b2))] (fun rr => rr = ⟨(.v (.bool (lgtB l))), []⟩) := by
 simp only [maxLen] at hl
 refine Ctr.of (rs := [.tmp 2]) Tok true Tryz.func6 rfl rfl rfl rfl (by simp [ofDL]) (fun w0 kp => ?_)
 simp only [↓sx0, xE, sevalprocAttr]
 have main : ∀ (hle : lenP l.length = true), lgtB l = l.all shrtP := fun h => by rw [lgtB, h, Bool.true_and]
 have no : ∀ (hle : lenP l.length = false), lgtB l = false := fun h => by rw [lgtB, h, Bool.false_and]
 by_cases hf : lenP l.length = true
 ·have hf2 := hf
  simp only [lenP, Bool.or_eq_true, Bool.and_eq_true, decide_eq_true_eq] at hf2
  rw [main hf]
  by_cases h8 : l.length ≤ 5
  ·repeat ((with_reducible refine BrW.no (by omega) ?_); simp only [↓sx0, xE, sevalprocAttr])
   refine LoopW.comp [0, 3] (by simp only [sx2, xR, sevalprocAttr] <;> (try simp) <;> (try omega)) ?_
   simp only [sx2, sxR, sevalprocAttr]
   refine LoopW.up Tok (fun k : Nat => [(3, (.v (.int .i64 k)))]) (fun k => []) (fun k => []) (fun k => []) (fun k => k ≤ l.length ∧ (l.take k).all shrtP = true) (fun k => l.length - k) (0) (by simp only [sx2, xR, sevalprocAttr] <;> (try simp) <;> (try omega)) ?_ ?_
   ·exact ⟨by omega, by simp⟩
   rintro k ⟨hk, ht⟩
   simp only [↓sx0, xE, sevalprocAttr]
   refine BrW.dec (fun hlt => ?_) (fun hlt => ?_)
   ·simp only [↓sx0, xE, sevalprocAttr]
    have hkl : k < l.length := by omega
    refine IxW.nat hkl ?_
    simp only [↓sx0, xE, sevalprocAttr]
    refine CallI.fn (shortW_s b2 l[k].words (hw _ (List.getElem_mem hkl))) (by simp only [sx3, xR, sevalprocAttr] <;> (try simp) <;> (try rfl)) ?_
    simp only [↓sx0, xE, sevalprocAttr]
    refine BrW.of (fun hb => ?_) (fun hb => ?_)
    ·simp only [↓sx0, xE, sevalprocAttr]
     repeat ((with_reducible refine Vc.go ?_ fun _ => ?_); (focus (first | omega | (simp only [InK]; omega) | (simp [InK] <;> omega))); simp only [↓sx0, xE, sevalprocAttr])
     refine ⟨k + 1, StLe.auto (by simp only [sx2, xR, sevalprocAttr] <;> (try simp) <;> (try omega)), ?_, ?_⟩
     ·exact ⟨hkl, all_take_succ hkl ht hb⟩
     ·omega
    ·have := lgtB_bad hkl hb
     rw [main hf] at this
     simp only [↓sx0, xE, sevalprocAttr]
     refine EndW.fn ?_ ?_ <;> simp only [sx4, xK, sevalprocAttr] <;> (try simp [this]) <;> (try omega)
   ·simp only [↓sx0, xE, sevalprocAttr]
    have hke : k = l.length := by omega
    subst hke
    rw [List.take_length] at ht
    refine EndW.fn ?_ ?_ <;> simp only [sx4, xK, sevalprocAttr] <;> (try simp [ht]) <;> (try omega)
  ·repeat ((first | (with_reducible refine BrW.yes (by omega) ?_) | (with_reducible refine BrW.no (by omega) ?_)); (try simp only [↓sx0, xE, sevalprocAttr]))
   refine LoopW.comp [0, 3] (by simp only [sx2, xR, sevalprocAttr] <;> (try simp) <;> (try omega)) ?_
   simp only [sx2, sxR, sevalprocAttr]
   refine LoopW.up Tok (fun k : Nat => [(3, (.v (.int .i64 k)))]) (fun k => []) (fun k => []) (fun k => []) (fun k => k ≤ l.length ∧ (l.take k).all shrtP = true) (fun k => l.length - k) (0) (by simp only [sx2, xR, sevalprocAttr] <;> (try simp) <;> (try omega)) ?_ ?_
   ·exact ⟨by omega, by simp⟩
   rintro k ⟨hk, ht⟩
   simp only [↓sx0, xE, sevalprocAttr]
   refine BrW.dec (fun hlt => ?_) (fun hlt => ?_)
   ·simp only [↓sx0, xE, sevalprocAttr]
    have hkl : k < l.length := by omega
    refine IxW.nat hkl ?_
    simp only [↓sx0, xE, sevalprocAttr]
    refine CallI.fn (shortW_s b2 l[k].words (hw _ (List.getElem_mem hkl))) (by simp only [sx3, xR, sevalprocAttr] <;> (try simp) <;> (try rfl)) ?_
    simp only [↓sx0, xE, sevalprocAttr]
    refine BrW.of (fun hb => ?_) (fun hb => ?_)
    ·simp only [↓sx0, xE, sevalprocAttr]
     repeat ((with_reducible refine Vc.go ?_ fun _ => ?_); (focus (first | omega | (simp only [InK]; omega) | (simp [InK] <;> omega))); simp only [↓sx0, xE, sevalprocAttr])
     refine ⟨k + 1, StLe.auto (by simp only [sx2, xR, sevalprocAttr] <;> (try simp) <;> (try omega)), ?_, ?_⟩
     ·exact ⟨hkl, all_take_succ hkl ht hb⟩
     ·omega
    ·have := lgtB_bad hkl hb
     rw [main hf] at this
     simp only [↓sx0, xE, sevalprocAttr]
     refine EndW.fn ?_ ?_ <;> simp only [sx4, xK, sevalprocAttr] <;> (try simp [this]) <;> (try omega)
   ·simp only [↓sx0, xE, sevalprocAttr]
    have hke : k = l.length := by omega
    subst hke
    rw [List.take_length] at ht
    refine EndW.fn ?_ ?_ <;> simp only [sx4, xK, sevalprocAttr] <;> (try simp [ht]) <;> (try omega)
 ·have hf : lenP l.length = false := by simpa using hf
  have hf2 := hf
  simp only [lenP, Bool.or_eq_false_iff, Bool.and_eq_false_iff, decide_eq_false_iff_not] at hf2
  rw [no hf]
  by_cases h8 : l.length ≤ 60
  ·repeat ((first | (with_reducible refine BrW.yes (by omega) ?_) | (with_reducible refine BrW.no (by omega) ?_)); (try simp only [↓sx0, xE, sevalprocAttr]))
   refine EndW.fn ?_ ?_ <;> simp only [sx4, xK, sevalprocAttr] <;> (try simp) <;> (try omega)
  ·repeat ((first | (with_reducible refine BrW.yes (by omega) ?_) | (with_reducible refine BrW.no (by omega) ?_)); (try simp only [↓sx0, xE, sevalprocAttr]))
   refine EndW.fn ?_ ?_ <;> simp only [sx4, xK, sevalprocAttr] <;> (try simp) <;> (try omega)
theorem light_all {l : List Pt} (h : lgtB l = true) : l.length ≤ 62 ∧ ∀ p ∈ l, p.words.length ≤ 102 ∧ AllSz p.words := by
 simp only [lgtB, Bool.and_eq_true, List.all_eq_true] at h
 refine ⟨?_, fun p hp => ⟨(shrt_all (h.2 p hp)).2, (shrt_all (h.2 p hp)).1⟩⟩
 have := h.1
 simp only [lenP, Bool.or_eq_true, Bool.and_eq_true, decide_eq_true_eq] at this
 omega
end Go.Proofs.YtgcmppghjfidfaaGreatDoor
/-
 The chapters' top: marks are taken back by what is written (the law).
-/
namespace Go.Proofs.YtgcmppghjfidfaaGreatDoor
open Go Go.Vx
set_option maxRecDepth 20000
theorem fox_ap : apA foxL inMk = (fox4, 0) := by kernel_rfl
theorem marked_s : Ctr Tryz.prog 5 [] (fun rr => rr = ⟨(.v (.bool (true))), []⟩) := by
 have hA := Applied_s true true foxL inMk ⟨by decide, by decide⟩
 rw [fox_ap] at hA
 have encs := And.intro encs (And.intro awE prE)
 refine Ctr.of (rs := [.tmp 0]) Tok true Tryz.func5 rfl rfl rfl rfl (by simp [ofDL]) (fun w0 kp => ?_)
 simp only [↓sx0, sxE, encs, sevalprocAttr]
 refine CallI.fn (fox_s) (by simp only [sx3, encs, sxR, sevalprocAttr] <;> (try simp) <;> (try rfl)) ?_
 simp only [↓sx0, sxE, encs, sevalprocAttr]
 refine CallI.fn (hA) (by simp only [sx3, encs, sxR, sevalprocAttr] <;> (try simp) <;> (try rfl)) ?_
 simp only [↓sx0, sxE, encs, sevalprocAttr]
 repeat ((with_reducible refine BrW.yes (by simp) ?_); simp only [↓sx0, sxE, encs, sevalprocAttr])
 repeat ((with_reducible refine Vc.go trivial fun _ => ?_); simp only [↓sx0, sxE, encs, sevalprocAttr])
 refine ⟨by omega, _, rfl, ?_⟩
 simp only [↓sx0, sxE, encs, sevalprocAttr]
 refine CallI.fn (texts_s true false [⟨#[116, 104, 101]⟩, ⟨#[118, 101, 114, 121]⟩, ⟨#[113, 117, 105, 99, 107]⟩, ⟨#[102, 111, 120]⟩] [⟨#[116, 104, 101]⟩, ⟨#[118, 101, 114, 121]⟩, ⟨#[113, 117, 105, 99, 107]⟩, ⟨#[102, 111, 120]⟩] (by decide)) (by simp only [sx3, encs, sxR, sevalprocAttr] <;> (try simp) <;> (try rfl)) ?_
 simp only [↓sx0, sxE, encs, sevalprocAttr]
 refine EndW.fn ?_ ?_ <;> simp only [sx4, encs, kpLL_map, sxR, sevalprocAttr] <;> (try simp) <;> (try omega)
theorem apF_at {ms : List Mk} {l : List Pt} {k : Nat} (h : ¬ (apF l k ms).2.2 = 0) : (apF l k ms).2.1 < k + ms.length := by
 induction ms generalizing l k with
 | nil => exact absurd rfl h
 | cons m ms ih =>
  rw [apF] at h ⊢
  by_cases hv : (apV l m).2 = 0
  ·rw [if_pos hv] at h ⊢
   have := ih h
   simp only [List.length_cons]; omega
  ·rw [if_neg hv]; simp only [List.length_cons]; omega
theorem apAll_at {ms : List Mk} {l : List Pt} (h0 : (partsErr l).2 = 0) (h1 : lstErr ms = 0) (h : ¬ (apAll l ms).2.2 = 0) : (apAll l ms).2.1 < ms.length := by
 rw [apAll, if_pos h0, if_pos h1] at h ⊢
 have := apF_at h
 omega
theorem lst_inv {ms : List Mk} (h : lstErr ms = 0) : lstErr (ms.map invM).reverse = 0 := by
 obtain ⟨hl, hm⟩ := lstA h
 refine lstB (by simp; exact hl) fun m hx => ?_
 simp only [List.mem_reverse, List.mem_map] at hx
 obtain ⟨y, hy, rfl⟩ := hx
 exact mkErr_inv (hm y hy)
theorem invM_I {m : Mk} (h : MkI m ∧ m.old.size ≤ 40 ∧ m.new.size ≤ 40) : MkI (invM m) ∧ (invM m).old.size ≤ 40 ∧ (invM m).new.size ≤ 40 := by
 obtain ⟨⟨h1, h2, h3, h4⟩, h5, h6⟩ := h
 refine ⟨⟨h1, h2, ?_, ?_⟩, h6, h5⟩
 ·simp only [invM]; split <;> assumption
 ·simp only [invM]; split <;> assumption
set_option maxHeartbeats 16000000 in
theorem invertedLaw_s (l : List Pt) (ms : List Mk) (hl : l.length ≤ maxLen) (hw : ∀ p ∈ l, p.words.length ≤ maxLen) (hI : ∀ m ∈ ms, MkI m) (hms : ms.length ≤ maxLen) : CtrK glob Tryz.prog 3 [.sl true 2 (l.map (eP true)), .sl true 7 (ms.map eM)] (fun rr => rr = ⟨(.v (.bool (true))), []⟩) := by
 have hmx : maxLen = 9223372036854775807 := rfl
 have encs := And.intro encs fcS_at
 refine CtrK.of (rs := [.tmp 4]) Tok true Tryz.func3 rfl rfl rfl rfl (by simp [ofDL]) (fun w0 kp hgl => ?_)
 simp only [↓sx0, sxE, encs, sevalprocAttr]
 refine CallI.fn (marked_s) (by simp only [sx3, encs, sxR, sevalprocAttr] <;> (try simp) <;> (try rfl)) ?_
 simp only [↓sx0, sxE, encs, sevalprocAttr]
 refine CallI.fn (light_s true true l hl hw) (by simp only [sx3, encs, sxR, sevalprocAttr] <;> (try simp) <;> (try rfl)) ?_
 simp only [↓sx0, sxE, encs, sevalprocAttr]
 by_cases fa : lgtB l = true
 ·obtain ⟨l62, lw⟩ := light_all fa
  have lw2 : ∀ p ∈ l, p.words.length ≤ 1000000 := fun p hp => by have := (lw p hp).1; omega
  rw [fa]
  refine BrW.tt rfl ?_
  simp only [↓sx0, sxE, encs, sevalprocAttr]
  refine CallI.fn (few_s true ms hms) (by simp only [sx3, encs, sxR, sevalprocAttr] <;> (try simp) <;> (try rfl)) ?_
  simp only [↓sx0, sxE, encs, sevalprocAttr]
  by_cases fb : fewB ms = true
  ·rw [fb]
   obtain ⟨zb, nb⟩ := few_all fb
   have hb : ∀ m ∈ ms, MkI m ∧ m.old.size ≤ 40 ∧ m.new.size ≤ 40 := fun m hm => by
    have h1 := fb
    simp only [fewB, Bool.and_eq_true, List.all_eq_true] at h1
    have h2 := h1.2 m hm
    simp only [brB, decide_eq_true_eq] at h2
    exact ⟨hI m hm, h2⟩
   have hP : ∀ m ∈ ms, MkP m := fun m hm => by
    obtain ⟨h1, h2, h3⟩ := hb m hm
    exact ⟨h1, by omega, by omega⟩
   refine BrW.tt rfl ?_
   simp only [↓sx0, sxE, encs, sevalprocAttr]
   refine CallI.fn (checkMarksR_s true ms zb (by omega)) (by simp only [sx3, encs, sxR, sevalprocAttr] <;> (try simp) <;> (try rfl)) ?_
   simp only [↓sx0, sxE, encs, sevalprocAttr]
   by_cases he : lstErr ms = 0
   ·rw [he]
    repeat ((with_reducible refine BrW.no (by simp) ?_); simp only [↓sx0, sxE, encs, sevalprocAttr])
    refine CallI.fn (checkPartsR_s true true l (by omega) (fun p hp => ⟨lw2 p hp, (lw p hp).2⟩)) (by simp only [sx3, encs, sxR, sevalprocAttr] <;> (try simp) <;> (try rfl)) ?_
    simp only [↓sx0, sxE, encs, sevalprocAttr]
    by_cases hq : (partsErr l).2 = 0
    ·rw [hq]
     refine BrW.no (by simp) ?_
     simp only [↓sx0, sxE, encs, sevalprocAttr]
     obtain ⟨hb1, hb2, hb3⟩ := par_back he hb
     have cX := parse_s (lT ms) (.inl ⟨hb2, hb3⟩)
     rw [hb1] at cX
     have cP := print_s true ms zb hP (by omega)
     rw [show prtL ms = (bs (lT ms), 0) by rw [prtL, if_pos he]] at cP
     simp only at cX cP
     refine CallI.fn (copyMarks_s true ms (by omega)) (by simp only [sx3, encs, sxR, sevalprocAttr] <;> (try simp) <;> (try rfl)) ?_
     simp only [↓sx0, sxE, encs, sevalprocAttr]
     refine CallI.fnK (cP) glob_ok hgl rfl (by simp only [sx3, encs, sxR, sevalprocAttr] <;> (try simp) <;> (try rfl)) ?_
     simp only [↓sx0, sxE, encs, sevalprocAttr]
     refine CallI.fnK (cX) glob_ok hgl rfl (by simp only [sx3, encs, sxR, sevalprocAttr] <;> (try simp) <;> (try rfl)) ?_
     simp only [↓sx0, sxE, encs, sevalprocAttr]
     repeat ((with_reducible refine BrW.no (by simp) ?_); simp only [↓sx0, sxE, encs, sevalprocAttr])
     refine CallI.fn (sameM_s true true ms ms (by omega)) (by simp only [sx3, encs, sxR, sevalprocAttr] <;> (try simp) <;> (try rfl)) ?_
     simp only [↓sx0, sxE, encs, sevalprocAttr]
     repeat ((first | (with_reducible refine BrW.no (by simp) ?_) | (with_reducible refine BrW.yes (by simp) ?_)); (try simp only [↓sx0, sxE, encs, sevalprocAttr]))
     refine CallI.fn (copyOf_s true true l (by omega) lw2) (by simp only [sx3, encs, sxR, sevalprocAttr] <;> (try simp) <;> (try rfl)) ?_
     simp only [↓sx0, sxE, encs, sevalprocAttr]
     refine CallI.fn (copyMarks_s true ms (by omega)) (by simp only [sx3, encs, sxR, sevalprocAttr] <;> (try simp) <;> (try rfl)) ?_
     simp only [↓sx0, sxE, encs, sevalprocAttr]
     have hA := AppliedAll_s true true true l ms zb (by omega)
     have hat := apAll_at hq he
     have hback := apAll_back (l := l) (ms := ms)
     generalize apAll l ms = W at hA hat hback
     obtain ⟨x, n, e⟩ := W
     simp only at hA hat hback
     refine CallI.fn (hA) (by simp only [sx3, encs, sxR, sevalprocAttr] <;> (try simp) <;> (try rfl)) ?_
     simp only [↓sx0, sxE, encs, sevalprocAttr]
     by_cases hz : e = 0
     ·subst hz
      obtain ⟨⟨hJ, hx0⟩, hB⟩ := hback rfl
      refine BrW.no (by simp) ?_
      simp only [↓sx0, sxE, encs, sevalprocAttr]
      have he2 := lst_inv he
      have zb2 := allMk_inv zb
      have hb' : ∀ m ∈ (ms.map invM).reverse, MkI m ∧ m.old.size ≤ 40 ∧ m.new.size ≤ 40 := fun m hx => by
       simp only [List.mem_reverse, List.mem_map] at hx
       obtain ⟨y, hy, rfl⟩ := hx
       exact invM_I (hb y hy)
      have hl2 : (ms.map invM).reverse.length = ms.length := by simp
      have hIA := InverseAll_s ms zb (by omega)
      rw [hJ] at hIA
      have hAB := AppliedAll_s true true true x (ms.map invM).reverse zb2 (by omega)
      rw [hB] at hAB
      generalize (ms.map invM).reverse = mr at *
      have hP2 : ∀ m ∈ mr, MkP m := fun m hm => by
       obtain ⟨h1, h2, h3⟩ := hb' m hm
       exact ⟨h1, by omega, by omega⟩
      obtain ⟨hc1, hc2, hc3⟩ := par_back he2 hb'
      have cX2 := parse_s (lT mr) (.inl ⟨hc2, hc3⟩)
      rw [hc1] at cX2
      have cP2 := print_s true mr zb2 hP2 (by omega)
      rw [show prtL mr = (bs (lT mr), 0) by rw [prtL, if_pos he2]] at cP2
      have cF := firstChanged_s true true true true l l (by omega) (by omega) lw2 lw2
      rw [fcA_self hq] at cF
      simp only at cX2 cP2 hIA hAB
      refine CallI.fn (hIA) (by simp only [sx3, encs, sxR, sevalprocAttr] <;> (try simp) <;> (try rfl)) ?_
      simp only [↓sx0, sxE, encs, sevalprocAttr]
      refine CallI.fnK (cP2) glob_ok hgl rfl (by simp only [sx3, encs, sxR, sevalprocAttr] <;> (try simp) <;> (try rfl)) ?_
      simp only [↓sx0, sxE, encs, sevalprocAttr]
      refine CallI.fnK (cX2) glob_ok hgl rfl (by simp only [sx3, encs, sxR, sevalprocAttr] <;> (try simp) <;> (try rfl)) ?_
      simp only [↓sx0, sxE, encs, sevalprocAttr]
      repeat ((first | (with_reducible refine BrW.no (by simp) ?_) | (with_reducible refine BrW.yes (by simp) ?_)); (try simp only [↓sx0, sxE, encs, sevalprocAttr]))
      refine CallI.fn (hAB) (by simp only [sx3, encs, sxR, sevalprocAttr] <;> (try simp) <;> (try rfl)) ?_
      simp only [↓sx0, sxE, encs, sevalprocAttr]
      repeat ((first | (with_reducible refine BrW.no (by simp) ?_) | (with_reducible refine BrW.yes (by simp) ?_)); (try simp only [↓sx0, sxE, encs, sevalprocAttr]))
      refine CallI.fn (copyOf_s true true l (by omega) lw2) (by simp only [sx3, encs, sxR, sevalprocAttr] <;> (try simp) <;> (try rfl)) ?_
      simp only [↓sx0, sxE, encs, sevalprocAttr]
      refine CallI.fn (printC_s true true l hq) (by simp only [sx3, encs, sxR, sevalprocAttr] <;> (try simp) <;> (try rfl)) ?_
      simp only [↓sx0, sxE, encs, sevalprocAttr]
      refine CallI.fn (copyOf_s true true l (by omega) lw2) (by simp only [sx3, encs, sxR, sevalprocAttr] <;> (try simp) <;> (try rfl)) ?_
      simp only [↓sx0, sxE, encs, sevalprocAttr]
      refine CallI.fn (printC_s true true l hq) (by simp only [sx3, encs, sxR, sevalprocAttr] <;> (try simp) <;> (try rfl)) ?_
      simp only [↓sx0, sxE, encs, sevalprocAttr]
      refine CallI.fn (copyOf_s true true l (by omega) lw2) (by simp only [sx3, encs, sxR, sevalprocAttr] <;> (try simp) <;> (try rfl)) ?_
      simp only [↓sx0, sxE, encs, sevalprocAttr]
      refine CallI.fn (cF) (by simp only [sx3, encs, sxR, sevalprocAttr] <;> (try simp) <;> (try rfl)) ?_
      simp only [↓sx0, sxE, encs, sevalprocAttr]
      repeat ((first | (with_reducible refine BrW.no (by simp) ?_) | (with_reducible refine BrW.yes (by simp) ?_)); (try simp only [↓sx0, sxE, encs, sevalprocAttr]))
      refine EndW.fn ?_ ?_ <;> simp only [sx4, encs, kpLL_map, sxR, sevalprocAttr] <;> (try simp) <;> (try omega)
     ·refine BrW.yes hz ?_
      simp only [↓sx0, sxE, encs, sevalprocAttr]
      repeat ((with_reducible refine Vc.go ?_ fun _ => ?_); (focus (first | omega | (simp only [InK]; omega) | (simp [InK] <;> omega))); simp only [↓sx0, sxE, encs, sevalprocAttr])
      refine CallI.fn (withinB_s n 0 ((ms.length : Int) - 1)) (by simp only [sx3, encs, sxR, sevalprocAttr] <;> (try simp) <;> (try rfl)) ?_
      simp only [↓sx0, sxE, encs, sevalprocAttr]
      refine EndW.fn ?_ ?_ <;> simp only [sx4, encs, kpLL_map, sxR, sevalprocAttr] <;> (try simp) <;> (try omega)
    ·refine BrW.yes hq ?_
     simp only [↓sx0, sxE, encs, sevalprocAttr]
     refine EndW.fn ?_ ?_ <;> simp only [sx4, encs, kpLL_map, sxR, sevalprocAttr] <;> (try simp) <;> (try omega)
   ·refine BrW.yes he ?_
    simp only [↓sx0, sxE, encs, sevalprocAttr]
    refine EndW.fn ?_ ?_ <;> simp only [sx4, encs, kpLL_map, sxR, sevalprocAttr] <;> (try simp) <;> (try omega)
  ·rw [show fewB ms = false by simpa using fb]
   repeat ((with_reducible refine BrW.ff rfl ?_); simp only [↓sx0, sxE, encs, sevalprocAttr])
   refine EndW.fn ?_ ?_ <;> simp only [sx4, encs, kpLL_map, sxR, sevalprocAttr] <;> (try simp) <;> (try omega)
 ·rw [show lgtB l = false by simpa using fa]
  repeat ((with_reducible refine BrW.ff rfl ?_); simp only [↓sx0, sxE, encs, sevalprocAttr])
  refine EndW.fn ?_ ?_ <;> simp only [sx4, encs, kpLL_map, sxR, sevalprocAttr] <;> (try simp) <;> (try omega)
end Go.Proofs.YtgcmppghjfidfaaGreatDoor
