/-
 Chapter 6, walks: numbers read (reference).
-/
import Derived.Test.YtgiegokdcmkfeaaGreatDoorVGF
import Derived.Test.YtgiegokdcmkfeaaGreatDoorVGE
import Derived.Test.YtgiegokdcmkfeaaGreatDoorVGlobI
set_option linter.unusedSimpArgs false
set_option linter.unusedVariables false
namespace Go.Proofs.YtgiegokdcmkfeaaGreatDoor
open Go Go.Vx
set_option maxRecDepth 20000
def nsR (ws : List (List UInt8)) (cnt : Nat) : List Int × Bool := if (ws.all fun w => (n4R w).2) = true then (ws.map fun w => (n4R w).1, decide (ws.length = cnt)) else ([], false)
def nsT (ws : List (List UInt8)) (k : Nat) : List Int := (ws.take k).map fun w => (n4R w).1
end Go.Proofs.YtgiegokdcmkfeaaGreatDoor
/-
 Chapter 6, walks: a scheme read (reference).
-/
namespace Go.Proofs.YtgiegokdcmkfeaaGreatDoor
open Go Go.Vx
set_option maxRecDepth 20000
def fitB (ps : List (List UInt8)) (i : Nat) : Bool := (stN n4R ps i).2.2.2.all fun n => decide (n = (stN n4R ps i).1)
end Go.Proofs.YtgiegokdcmkfeaaGreatDoor
/-
 Chapter 6, walks: pieces of a slice, one after the other; texts joined.
-/
namespace Go.Proofs.YtgiegokdcmkfeaaGreatDoor
open Go Go.Vx
set_option maxRecDepth 20000
theorem joinC_T (b : Bool) (W : List (List UInt8)) (c : UInt8) (hN : W.length ≤ 1000000) (hlen : (Lib.join W [c]).length ≤ 140737488355328) : Ctr Tryz.prog 34 [.sl b 1 (W.map eT), (.v (.string (⟨#[c]⟩)))] (fun rr => rr = ⟨(.v (.string (bs (Lib.join W [c])))), []⟩) := by
 have e : (W.map bs).map (·.data.toList) = W := by
  rw [List.map_map]
  conv => rhs; rw [← List.map_id W]
  exact List.map_congr_left fun x _ => bs_toList x
 have h := join_s b (W.map bs) ⟨#[c]⟩ (by simpa using hN) (by rw [e]; exact hlen)
 rw [e, List.map_map] at h
 exact h
theorem ItCtr.toB {P : Program} {f : FuncId} {ty : TypeId} {cells lb : List SV} {xs : List (List SV)} (h : ItCtr P f lb xs) (himm : immVL lb = true) : ItCtrB P f ty cells lb xs :=
 ⟨h.1, fun w μ mp yd b0 cs vs hμ h1 h2 hb hr hlb hmb hμb hok hJ => h.2 w μ mp yd vs hμ h1 h2 (rels_imm (g := gBx μ w b0) (g' := gMu μ w) (fun _ _ _ hc => hc) lb _ himm hlb) hok
  (hok.frame _ _ _ _ _ w _ hJ (fun _ _ => rfl) (Nat.le_refl _) rfl rfl rfl fun b hb2 => by
   simp only [Bool.and_eq_true] at hb2; exact hb2.1)⟩
def ckC (l : List Cell) (n : Nat) : List SV := [.pt true [.sl true 4 (l.map eC)], .pt true [(.v (.int .i64 ((n : Int))))]]
def ckP (l : List Cell) (n k : Nat) : List Cell := (l.drop (k * n)).take n
def ckY (l : List Cell) (n k : Nat) : List SV := [.sl true 4 ((ckP l n k).map eC)]
def ckL (l : List Cell) (n k : Nat) : List (List SV) := (List.range k).map (ckY l n)
theorem ckL_succ (l : List Cell) (n k : Nat) : ckL l n (k + 1) = ckL l n k ++ [ckY l n k] := by simp [ckL, List.range_succ]
theorem ckL_le {l : List Cell} {n j k : Nat} (h : j ≤ k) : ckL l n j <+: ckL l n k := by
 obtain ⟨d, rfl⟩ := Nat.le.dest h
 exact ⟨(List.map (j + ·) (List.range d)).map (ckY l n), by simp [ckL, List.range_add]⟩
theorem chunk_s (l : List Cell) (n : Nat) (hn : 0 < n) : Ctr Tryz.prog 33 [.sl true 4 (l.map eC), (.v (.int .i64 ((n : Int))))] (fun rr => rr = ⟨.clo 72 (ckC l n), []⟩) := by
 have encs := And.intro encs (show ∀ l n, ckC l n = [.pt true [.sl true 4 (l.map eC)], .pt true [(.v (.int .i64 ((n : Int))))]] from fun _ _ => rfl)
 refine Ctr.ofB (rs := [.tmp 4]) Tok Tryz.func33 rfl rfl rfl rfl (by simp [ofDL]) (fun w0 kp => ?_)
 simp only [↓sx0, sxE, encs, sevalprocAttr]
 refine BrW.no (by omega) ?_
 simp only [↓sx0, sxE, encs, sevalprocAttr]
 simp only [endY, boxV, boxL, bxPs, bxPs.bx1, bxD, assB, ptB, bxV, bxL, toDL, toD, consO, vD, oneV, dedN, addN, memN, sxL, sx2, encs, sxR, sevalprocAttr]
 exact EndW.fn (by simp only [sx4, encs, kpLL_map, sxR, sevalprocAttr] <;> (try simp) <;> (try omega)) (by simp only [sx4, encs, kpLL_map, sxR, sevalprocAttr] <;> (try simp) <;> (try omega))
set_option maxHeartbeats 4000000 in
theorem chunkIt_s (l : List Cell) (n r : Nat) (hn : 0 < n) (hn2 : n ≤ 1000) (hr : r ≤ 1000) (hl : l.length = r * n) : ItCtr Tryz.prog 72 (ckC l n) (ckL l n r) := by
 have encs := And.intro encs (And.intro (show ∀ l n, ckC l n = [.pt true [.sl true 4 (l.map eC)], .pt true [(.v (.int .i64 ((n : Int))))]] from fun _ _ => rfl) sxFb)
 have hrn : r * n ≤ 1000 * 1000 := Nat.mul_le_mul hr hn2
 refine ItCtr.of Tok Tryz.func72 rfl rfl rfl rfl (by simp [ofDL, encs]) (fun w0 kp yd hok => ?_)
 simp only [↓sx0, sxE, encs, sevalprocAttr]
 repeat ((with_reducible refine Vc.go ?_ fun _ => ?_); (focus (first | omega | (simp only [InK]; omega) | (simp [InK]; done) | (simp [InK]; omega))); simp only [↓sx0, sxE, encs, sevalprocAttr])
 refine LoopW.comp [0, 1, 2, 4] (by simp only [sx2, encs, sxR, sevalprocAttr] <;> (try simp) <;> (try omega)) ?_
 simp only [sx2, sxR, sevalprocAttr]
 refine LoopW.upG Tok (fun k : Nat => [(4, (.v (.int .i64 (((k * n : Nat) : Int)))))]) (fun k => []) (fun k => []) (fun k => []) (fun k => ckL l n k) (fun k => k ≤ r) (fun k => r - k) (0) (by simp only [sx2, encs, sxR, sevalprocAttr] <;> (try simp [ckL, encs]) <;> (try omega)) ?_ ?_
 ·omega
 rintro k hk
 have hkn : k * n ≤ r * n := Nat.mul_le_mul_right n hk
 simp only [↓sx0, sxE, encs, sevalprocAttr]
 refine BrW.dec (fun hlt => ?_) (fun hlt => ?_)
 ·have hkr : k < r := by
   apply Classical.byContradiction
   intro h
   have : k = r := by omega
   subst this; omega
  have hk1 : (k + 1) * n ≤ r * n := Nat.mul_le_mul_right n hkr
  have hk2 : (k + 1) * n = k * n + n := Nat.succ_mul k n
  simp only [↓sx0, sxE, encs, sevalprocAttr]
  refine DrawW.plan Tok mixed (.q 0 <| .q 1 <| .q 2 <| .q 3 <| .q 4 <| .q 5 <| .q 6 <| .done) (by kernel_rfl) (by kernel_rfl) ?_
  simp only [↓sx0, sxE, encs, sevalprocAttr]
  repeat ((with_reducible refine Vc.go ?_ fun _ => ?_); (focus (first | omega | (simp only [InK]; omega) | (simp [InK]; done) | (simp [InK]; omega))); simp only [↓sx0, sxE, encs, sevalprocAttr])
  have hval : ∀ a b, a = n → b = k * n → List.take a (List.drop b (l.map eC)) = (ckP l n k).map eC := by
   rintro _ _ rfl rfl
   rw [ckP, List.map_take, List.map_drop]
  rw [hval _ _ (by rw [List.length_drop, List.length_map, hl]; omega) (by omega)]
  have hb : ckY l n k = [.sl true 4 ((ckP l n k).map eC)] := rfl
  have hm : ckL l n k ++ [[.sl true 4 ((ckP l n k).map eC)]] <+: ckL l n r := by rw [← hb, ← ckL_succ]; exact ckL_le hkr
  have hs := ckL_succ l n k
  rw [hb] at hs
  generalize (ckP l n k).map eC = y at hm hs ⊢
  refine YldI.of (ys := ckL l n k) hok rfl rfl (by simp only [sx2, sxA, encs, sxR, sevalprocAttr] <;> rfl) (by simp only [sx2, sxA, encs, sxR, sevalprocAttr] <;> rfl) rfl rfl rfl (hm) ?_ ?_
  ·simp only [↓sx0, sxE, encs, sevalprocAttr]
   repeat ((with_reducible refine Vc.go ?_ fun _ => ?_); (focus (first | omega | (simp only [InK]; omega) | (simp [InK]; done) | (simp [InK]; omega))); simp only [↓sx0, sxE, encs, sevalprocAttr])
   refine ⟨k + 1, StLe.auto (by simp only [sx2, encs, sxR, sevalprocAttr] <;> (try simp [hs, Int.add_mul, encs]) <;> (try omega)), ?_, ?_⟩
   ·omega
   ·omega
  ·simp only [↓sx0, sxE, encs, sevalprocAttr]
   intro h
   cases h
 ·simp only [↓sx0, sxE, encs, sevalprocAttr]
  have hke : k = r := by
   apply Classical.byContradiction
   intro h
   have hk1 : (k + 1) * n ≤ r * n := Nat.mul_le_mul_right n (by omega)
   have hk2 : (k + 1) * n = k * n + n := Nat.succ_mul k n
   omega
  subst hke
  intro _
  rfl
end Go.Proofs.YtgiegokdcmkfeaaGreatDoor
/-
 Chapter 6, walks: a scheme written (the program).
-/
namespace Go.Proofs.YtgiegokdcmkfeaaGreatDoor
open Go Go.Vx
set_option maxRecDepth 20000
def I64 (n : Int) : Prop := -9223372036854775808 ≤ n ∧ n ≤ 9223372036854775807
def CelI (x : Cell) : Prop := I64 x.front ∧ I64 x.fturn ∧ I64 x.back ∧ I64 x.bturn
theorem itoa_len {n : Int} (h : -9223372036854775808 ≤ n ∧ n ≤ 9223372036854775807) : (Lib.itoa n).length ≤ 21 := by
 unfold Lib.itoa
 split
 ·have := dec_len 19 n.natAbs (by omega)
  simp only [List.length_cons]; omega
 ·have := dec_len 19 n.toNat (by omega)
  omega
/-- the text of a cell. -/
def celT (x : Cell) : List UInt8 := Lib.join [Lib.itoa x.front, Lib.itoa x.fturn, Lib.itoa x.back, Lib.itoa x.bturn] [47]
def rowT (l : List Cell) : List UInt8 := Lib.join (l.map celT) [32] ++ [10]
def hedT (c r : Int) : List UInt8 := Lib.itoa c ++ 32 :: (Lib.itoa r ++ [10])
def rowsT (l : List Cell) (n k : Nat) : List UInt8 := ((List.range k).map fun j => rowT (ckP l n j)).flatten
theorem rowsT_succ (l : List Cell) (n k : Nat) : rowsT l n (k + 1) = rowsT l n k ++ rowT (ckP l n k) := by simp [rowsT, List.range_succ]
/-- the text of a scheme. -/
def schT (c r : Nat) (l : List Cell) : List UInt8 := hedT c r ++ rowsT l c r
theorem joinC_len (c : UInt8) : ∀ (W : List (List UInt8)) (m : Nat), (∀ w ∈ W, w.length ≤ m) → (Lib.join W [c]).length ≤ (m + 1) * W.length
 | [], m, _ => by simp [Lib.join]
 | [w], m, h => by rw [Lib.join_one]; have := h w (by simp); simp; omega
 | w :: v :: r, m, h => by
  have hj : Lib.join (w :: v :: r) [c] = w ++ c :: Lib.join (v :: r) [c] := by
   rw [Lib.join_cons, Lib.join_cons]; simp [Lib.joinTail]
  have ih := joinC_len c (v :: r) m fun x hx => h x (List.mem_cons_of_mem _ hx)
  have := h w (by simp)
  rw [hj]
  simp only [List.length_append, List.length_cons] at ih ⊢
  have h3 : (m + 1) * (r.length + 1 + 1) = (m + 1) * (r.length + 1) + (m + 1) := Nat.mul_succ _ _
  omega
theorem celT_len {x : Cell} (h : CelI x) : (celT x).length ≤ 88 := by
 obtain ⟨h1, h2, h3, h4⟩ := h
 refine Nat.le_trans (joinC_len 47 _ 21 fun w hw => ?_) (by simp)
 simp only [List.mem_cons, List.not_mem_nil, or_false] at hw
 rcases hw with rfl | rfl | rfl | rfl
 ·exact itoa_len h1
 ·exact itoa_len h2
 ·exact itoa_len h3
 ·exact itoa_len h4
theorem rowT_len {l : List Cell} (h : ∀ x ∈ l, CelI x) : (rowT l).length ≤ 89 * l.length + 1 := by
 have := joinC_len 32 (l.map celT) 88 fun w hw => by
  obtain ⟨x, hx, rfl⟩ := List.mem_map.1 hw
  exact celT_len (h x hx)
 rw [List.length_map] at this
 simp only [rowT, List.length_append, List.length_singleton]; omega
theorem ckP_mem {l : List Cell} {n k : Nat} {x : Cell} (h : x ∈ ckP l n k) : x ∈ l := List.mem_of_mem_drop (List.mem_of_mem_take h)
theorem ckP_len (l : List Cell) (n k : Nat) : (ckP l n k).length ≤ n := by simp [ckP]; omega
theorem rowsT_len {l : List Cell} {n : Nat} (h : ∀ x ∈ l, CelI x) : ∀ k, (rowsT l n k).length ≤ (89 * n + 1) * k
 | 0 => by simp [rowsT]
 | k + 1 => by
  have ih := rowsT_len (n := n) h k
  have h1 := rowT_len (l := ckP l n k) fun x hx => h x (ckP_mem hx)
  have h2 := ckP_len l n k
  have h3 : (89 * n + 1) * (k + 1) = (89 * n + 1) * k + (89 * n + 1) := Nat.mul_succ _ _
  rw [rowsT_succ, List.length_append]
  omega
theorem itoa_T (n : Int) (h : I64 n) : CtrK glob Tryz.prog 32 [(.v (.int .i64 n))] (fun rr => rr = ⟨(.v (.string (bs (Lib.itoa n)))), []⟩) := itoa_s n h.1 h.2
/-- what Print answers. -/
def prtS (c r : Int) (l : List Cell) : ByteArray × Int := if (schS c r l).2 = 0 then (bs (schT c.toNat r.toNat l), 0) else (⟨#[]⟩, (schS c r l).2)
end Go.Proofs.YtgiegokdcmkfeaaGreatDoor
/-
 Chapter 6, walks: a scheme written (reference).
-/
namespace Go.Proofs.YtgiegokdcmkfeaaGreatDoor
open Go Go.Vx
set_option maxRecDepth 20000
theorem celT_eq (x : Cell) : celT x = Lib.itoa x.front ++ (47 :: (Lib.itoa x.fturn ++ (47 :: (Lib.itoa x.back ++ (47 :: Lib.itoa x.bturn))))) := by
 rw [celT]; simp [Lib.join_cons, Lib.joinTail]
/-- cells, each with a space behind. -/
def sepT (l : List Cell) (j : Nat) : List UInt8 := ((l.take j).map fun x => celT x ++ [32]).flatten
structure KJ where
 k : Nat
 j : Nat
end Go.Proofs.YtgiegokdcmkfeaaGreatDoor
/-
 Chapter 6, walks: halves of a sheet (the program).
-/
namespace Go.Proofs.YtgiegokdcmkfeaaGreatDoor
open Go Go.Vx
set_option maxRecDepth 20000
theorem indexCells_s (b : Bool) (f : Nat) (p : Cell → Bool) (l : List Cell) (hl : l.length ≤ 1000000000) (hof : ∀ x : Cell, Ctr Tryz.prog f [.agg [(.v (.int .i64 x.front)), (.v (.int .i64 x.fturn)), (.v (.int .i64 x.back)), (.v (.int .i64 x.bturn))]] (fun rr => rr = ⟨(.v (.bool (p x))), []⟩)) : Ctr Tryz.prog 85 [.sl b 4 (l.map eC), .clo f []] (fun rr => rr = ⟨(.v (.int .i64 (ixS p l))), []⟩) := by
 refine Ctr.of (rs := [.tmp 4]) Tok true Tryz.func85 rfl rfl rfl rfl (by simp [ofDL]) (fun w0 kp => ?_)
 simp only [↓sx0, sxE, encs, sevalprocAttr]
 refine LoopW.comp [0, 1, 7, 8] (by simp only [sx2, encs, sxR, sevalprocAttr] <;> (try simp) <;> (try omega)) ?_
 simp only [sx2, sxR, sevalprocAttr]
 refine LoopW.up Tok (fun k : Nat => [(8, (.v (.int .i64 k)))]) (fun k => []) (fun k => []) (fun k => []) (fun k => k ≤ l.length ∧ ∀ x ∈ l.take k, p x = false) (fun k => l.length - k) (0) (by simp only [sx2, encs, sxR, sevalprocAttr] <;> (try simp) <;> (try omega)) ?_ ?_
 ·exact ⟨by omega, by simp⟩
 rintro k ⟨hk, hp⟩
 simp only [↓sx0, sxE, encs, sevalprocAttr]
 refine BrW.dec (fun hlt => ?_) (fun hlt => ?_)
 ·simp only [↓sx0, sxE, encs, sevalprocAttr]
  have hk2 : k < l.length := by omega
  refine IxW.nat hk2 ?_
  simp only [↓sx0, sxE, encs, sevalprocAttr]
  refine CallI.fn (hof l[k]) (by simp only [sx3, encs, sxR, sevalprocAttr] <;> (try simp) <;> (try rfl)) ?_
  simp only [↓sx0, sxE, encs, sevalprocAttr]
  refine BrW.of (fun hb => ?_) (fun hb => ?_)
  ·simp only [↓sx0, sxE, encs, sevalprocAttr]
   refine EndW.fn ?_ ?_ <;> simp only [sx4, encs, kpLL_map, sxR, sevalprocAttr] <;> (try simp [ixS_at hk2 hp hb]) <;> (try omega)
  ·simp only [↓sx0, sxE, encs, sevalprocAttr]
   (with_reducible refine Vc.go ?_ fun _ => ?_); focus (first | omega | (simp only [InK]; omega) | (simp [InK]; done) | (simp [InK]; omega))
   simp only [↓sx0, sxE, encs, sevalprocAttr]
   refine ⟨k + 1, StLe.auto (by simp only [sx2, encs, sxR, sevalprocAttr] <;> (try simp) <;> (try omega)), ?_, ?_⟩
   ·refine ⟨hk2, fun x hx => ?_⟩
    rw [List.take_succ_eq_append_getElem hk2, List.mem_append, List.mem_singleton] at hx
    rcases hx with hx | rfl
    ·exact hp x hx
    ·exact hb
   ·omega
 ·simp only [↓sx0, sxE, encs, sevalprocAttr]
  have hke : k = l.length := by omega
  subst hke
  rw [List.take_length] at hp
  refine EndW.fn ?_ ?_ <;> simp only [sx4, encs, kpLL_map, sxR, sevalprocAttr] <;> (try simp [ixS_no hp]) <;> (try omega)
theorem containsCells_s (b : Bool) (f : Nat) (p : Cell → Bool) (l : List Cell) (hl : l.length ≤ 1000000000) (hof : ∀ x : Cell, Ctr Tryz.prog f [.agg [(.v (.int .i64 x.front)), (.v (.int .i64 x.fturn)), (.v (.int .i64 x.back)), (.v (.int .i64 x.bturn))]] (fun rr => rr = ⟨(.v (.bool (p x))), []⟩)) : Ctr Tryz.prog 52 [.sl b 4 (l.map eC), .clo f []] (fun rr => rr = ⟨(.v (.bool (l.any p))), []⟩) := by
 refine Ctr.of (rs := [.tmp 4]) Tok true Tryz.func52 rfl rfl rfl rfl (by simp [ofDL]) (fun w0 kp => ?_)
 simp only [↓sx0, sxE, encs, sevalprocAttr]
 refine CallI.fn (indexCells_s b f p l hl hof) (by simp only [sx3, encs, sxR, sevalprocAttr] <;> (try simp) <;> (try rfl)) ?_
 simp only [↓sx0, sxE, encs, sevalprocAttr]
 refine EndW.fn ?_ ?_ <;> simp only [sx4, encs, kpLL_map, sxR, sevalprocAttr] <;> (try simp [ixS_any]) <;> (try omega)
def ceOk (x : Cell) : Bool := pgOk ⟨x.front, x.fturn⟩ && pgOk ⟨x.back, x.bturn⟩
theorem halves1_s (f ft k kt : Int) : Ctr Tryz.prog 53 [.agg [(.v (.int .i64 f)), (.v (.int .i64 ft)), (.v (.int .i64 k)), (.v (.int .i64 kt))]] (fun rr => rr = ⟨(.v (.bool (!(ceOk ⟨f, ft, k, kt⟩)))), []⟩) := by
 refine Ctr.of (rs := [.tmp 2]) Tok true Tryz.func53 rfl rfl rfl rfl (by simp [ofDL]) (fun w0 kp => ?_)
 simp only [↓sx0, sxE, encs, sevalprocAttr]
 refine CallI.fn (isPage_s f ft) (by simp only [sx3, encs, sxR, sevalprocAttr] <;> (try simp) <;> (try rfl)) ?_
 simp only [↓sx0, sxE, encs, sevalprocAttr]
 refine BrW.dec (fun h => ?_) (fun h => ?_)
 ·simp only [↓sx0, sxE, encs, sevalprocAttr]
  refine CallI.fn (isPage_s k kt) (by simp only [sx3, encs, sxR, sevalprocAttr] <;> (try simp) <;> (try rfl)) ?_
  simp only [↓sx0, sxE, encs, sevalprocAttr]
  refine EndW.fn ?_ ?_ <;> simp only [sx4, encs, kpLL_map, sxR, sevalprocAttr] <;> (try simp [ceOk, pgOk, h]) <;> (try omega)
 ·simp only [↓sx0, sxE, encs, sevalprocAttr]
  refine EndW.fn ?_ ?_ <;> simp only [sx4, encs, kpLL_map, sxR, sevalprocAttr] <;> (try simp [ceOk, pgOk, h]) <;> (try omega)
def swp (x : Cell) : Cell := ⟨x.back, x.bturn, x.front, x.fturn⟩
def swd (x : Cell) : Cell := ⟨x.back, 1 - x.bturn, x.front, 1 - x.fturn⟩
def hvA (c : Nat) (l : List Cell) (k q : Nat) : Cell := l.getD (q * c + k) zC
def hvB (d : Bool) (c r : Nat) (l : List Cell) (k q : Nat) : Cell := if d then swd (l.getD ((r - 1 - q) * c + k) zC) else swp (l.getD (q * c + (c - 1 - k)) zC)
def hvC (d : Bool) (c : Nat) : Nat := if d then c else c / 2
def hvR (d : Bool) (r : Nat) : Nat := if d then r / 2 else r
def hvOdd (d : Bool) (c r : Nat) : Bool := decide ((if d then r else c) % 2 ≠ 0)
/-- columns, rows, both halves, the error. -/
def halvesS (d : Bool) (c r : Int) (l : List Cell) : Int × Int × List Cell × List Cell × Int :=
 if sheetErr c r ≠ 0 then (0, 0, [], [], sheetErr c r) else if ¬ (l.length : Int) = c * r then (0, 0, [], [], 10) else if l.any (fun x => !ceOk x) = true then (0, 0, [], [], 2) else
  if hvOdd d c.toNat r.toNat = true then (0, 0, [], [], 25) else (hvC d c.toNat, hvR d r.toNat, grid (hvC d c.toNat) (hvR d r.toNat) (hvA c.toNat l), grid (hvC d c.toNat) (hvR d r.toNat) (hvB d c.toNat r.toNat l), 0)
theorem turns_ok {l : List Cell} {i : Nat} {x : Cell} (h : l.any (fun x => !ceOk x) = false) (hi : l[i]? = some x) : 0 ≤ x.fturn ∧ x.fturn ≤ 1 ∧ 0 ≤ x.bturn ∧ x.bturn ≤ 1 := by
 have := List.any_eq_false.1 h _ (List.mem_of_getElem? hi)
 simp only [ceOk, pgOk, Bool.not_eq_true, Bool.not_eq_false', Bool.and_eq_true, decide_eq_true_eq] at this
 omega
theorem quo2 (n : Nat) : (n : Int).tdiv 2 = ((n / 2 : Nat) : Int) := rfl
theorem rem2 (n : Nat) : (n : Int).tmod 2 = ((n % 2 : Nat) : Int) := rfl
set_option maxHeartbeats 1000000 in
theorem halvesR_s (b : Bool) (c r : Int) (l : List Cell) : Ctr Tryz.prog 17 [.agg [(.v (.int .i64 c)), (.v (.int .i64 r)), .sl b 4 (l.map eC)], (.v (.bool (false)))] (fun rr => rr = ⟨.tup [.agg [(.v (.int .i64 ((halvesS false c r l).1))), (.v (.int .i64 ((halvesS false c r l).2.1))), .sl true 4 ((halvesS false c r l).2.2.1.map eC), (.v (.int .i64 ((halvesS false c r l).1))), (.v (.int .i64 ((halvesS false c r l).2.1))), .sl true 4 ((halvesS false c r l).2.2.2.1.map eC)], (.v (.int .i64 ((halvesS false c r l).2.2.2.2)))], []⟩) := by
 refine Ctr.of (rs := [.cell 4 49, .tmp 5]) Tok true Tryz.func17 rfl rfl rfl rfl (by simp [ofDL]) (fun w0 kp => ?_)
 simp only [↓sx0, sxE, encs, sevalprocAttr]
 refine CallI.fn (checkSheet_s c r) (by simp only [sx3, encs, sxR, sevalprocAttr] <;> (try simp) <;> (try rfl)) ?_
 simp only [↓sx0, sxE, encs, sevalprocAttr]
 refine BrW.dec (fun he => ?_) (fun he => ?_)
 ·simp only [↓sx0, sxE, encs, sevalprocAttr]
  refine EndW.fn ?_ ?_ <;> simp only [sx4, encs, kpLL_map, sxR, sevalprocAttr] <;> (try simp [halvesS, he]) <;> (try omega)
 ·have he0 : sheetErr c r = 0 := Decidable.not_not.1 he
  have hsh := sheet_ok he0
  have b1 : c * r ≤ 8 * 8 := Int.mul_le_mul hsh.2.1 hsh.2.2.2 (by omega) (by omega)
  have b2 : 0 ≤ c * r := Int.mul_nonneg (by omega) (by omega)
  obtain ⟨cn, rfl⟩ : ∃ cn : Nat, c = cn := ⟨c.toNat, by omega⟩
  obtain ⟨rn, rfl⟩ : ∃ rn : Nat, r = rn := ⟨r.toNat, by omega⟩
  simp only [↓sx0, sxE, encs, sevalprocAttr]
  refine DrawW.plan Tok mixed (.q 0 <| .q 1 <| .q 2 <| .q 3 <| .q 4 <| .q 5 <| .q 6 <| .done) (by kernel_rfl) (by kernel_rfl) ?_
  simp only [↓sx0, sxE, encs, sevalprocAttr]
  rw [quo2]
  (with_reducible refine Vc.go ?_ fun _ => ?_); focus (first | omega | (simp only [InK]; omega) | (simp [InK]; done) | (simp [InK]; omega))
  simp only [↓sx0, sxE, encs, sevalprocAttr]
  rw [rem2]
  repeat ((with_reducible refine Vc.go ?_ fun _ => ?_); (focus (first | omega | (simp only [InK]; omega) | (simp [InK]; done) | (simp [InK]; omega))); simp only [↓sx0, sxE, encs, sevalprocAttr])
  refine BrW.dec (fun hln => ?_) (fun hln => ?_)
  ·simp only [↓sx0, sxE, encs, sevalprocAttr]
   refine EndW.fn ?_ ?_ <;> simp only [sx4, encs, kpLL_map, sxR, sevalprocAttr] <;> (try simp [halvesS, he0, hln]) <;> (try omega)
  ·simp only [↓sx0, sxE, encs, sevalprocAttr]
   have hln0 := Decidable.not_not.1 hln
   refine CallI.fn (containsCells_s b 53 (fun x => !(ceOk x)) l (by omega) (fun x => halves1_s x.front x.fturn x.back x.bturn)) (by simp only [sx3, encs, sxR, sevalprocAttr] <;> (try simp) <;> (try rfl)) ?_
   simp only [↓sx0, sxE, encs, sevalprocAttr]
   refine BrW.of (fun hb => ?_) (fun hb => ?_)
   ·simp only [↓sx0, sxE, encs, sevalprocAttr]
    refine EndW.fn ?_ ?_ <;> simp only [sx4, encs, kpLL_map, sxR, sevalprocAttr] <;> (try simp [halvesS, he0, hln0, hb]) <;> (try omega)
   ·simp only [↓sx0, sxE, encs, sevalprocAttr]
    have hlr : l.length = rn * cn := by
     have : (l.length : Int) = ((rn * cn : Nat) : Int) := by rw [hln0]; push_cast; exact Int.mul_comm _ _
     exact_mod_cast this
    refine BrW.dec (fun hod => ?_) (fun hod => ?_)
    ·have hod2 : hvOdd false cn rn = true := by simp only [hvOdd, Bool.false_eq_true, if_false, if_true, decide_eq_true_eq]; omega
     simp only [↓sx0, sxE, encs, sevalprocAttr]
     refine EndW.fn ?_ ?_ <;> simp only [sx4, encs, kpLL_map, sxR, sevalprocAttr] <;> (try simp [halvesS, he0, hln0, hb, hod2]) <;> (try omega)
    ·have hod2 : hvOdd false cn rn = false := by simp only [hvOdd, Bool.false_eq_true, if_false, if_true, decide_eq_false_iff_not]; omega
     simp only [↓sx0, sxE, encs, sevalprocAttr]
     refine LoopW.comp [1, 2, 4, 8, 11, 70, 71] (by simp only [sx2, encs, sxR, sevalprocAttr] <;> (try simp) <;> (try omega)) ?_
     simp only [sx2, sxR, sevalprocAttr]
     refine LoopW.up Tok (fun q : Nat => [(71, (.v (.int .i64 q)))]) (fun q => [(3, [(.v (.int .i64 ((cn / 2)))), (.v (.int .i64 rn)), .row 0, (.v (.int .i64 ((cn / 2)))), (.v (.int .i64 rn)), .row 1])]) (fun q => []) (fun q => [.own 63 4 ((grid (cn / 2) q (hvA cn l)).map eC), .own 63 4 ((grid (cn / 2) q (hvB false cn rn l)).map eC)]) (fun q => q ≤ rn) (fun q => rn - q) (0) (by simp only [sx2, encs, sxR, sevalprocAttr] <;> (try simp) <;> (try omega)) ?_ ?_
     ·omega
     rintro q hq1
     simp only [↓sx0, sxE, encs, sevalprocAttr]
     refine BrW.dec (fun hlt => ?_) (fun hlt => ?_)
     ·simp only [↓sx0, sxE, encs, sevalprocAttr]
      have hq2 : q < rn := by omega
      have hq3 : q < rn := by omega
      refine LoopW.comp [1, 2, 4, 8, 11, 12, 70, 71, 74, 75] (by simp only [sx2, encs, sxR, sevalprocAttr] <;> (try simp) <;> (try omega)) ?_
      simp only [sx2, sxR, sevalprocAttr]
      refine LoopW.up Tok (fun k : Nat => [(75, (.v (.int .i64 k)))]) (fun k => []) (fun k => [(0, ((grid (cn / 2) q (hvA cn l)) ++ gridRow k (hvA cn l) q).map eC), (1, ((grid (cn / 2) q (hvB false cn rn l)) ++ gridRow k (hvB false cn rn l) q).map eC)]) (fun k => []) (fun k => k ≤ (cn / 2)) (fun k => (cn / 2) - k) (0) (by simp only [sx2, encs, sxR, sevalprocAttr] <;> (try simp) <;> (try omega)) ?_ ?_
      ·omega
      rintro k hk1
      have hlen := cell_lt (rows := rn) (cols := cn) hq3 (c := 0) (by omega)
      simp only [↓sx0, sxE, encs, sevalprocAttr]
      refine BrW.dec (fun hlt2 => ?_) (fun hlt2 => ?_)
      ·have hk2 : k < (cn / 2) := by omega
       have hk3 : k < cn := by omega
       have hqk := cell_lt hq3 hk3
       have hqk2 := cell_lt hq2 hk2
       have hsz : rn * (cn / 2) ≤ 8 * 8 := Nat.mul_le_mul (by omega) (by omega)
       have i1 := twGet zC hlr hq3 hk3 (j := (q : Int) * cn + k) (by push_cast; rfl)
       have i2 := twGet zC hlr hq3 (show cn - 1 - k < cn by omega) (j := (q : Int) * cn + cn - 1 - k) (by push_cast; omega)
       have i3 := twGet zC hlr (show rn - 1 - q < rn by omega) hk3 (j := ((rn : Int) - 1 - q) * cn + k) (by rw [show ((rn : Int) - 1 - q) = ((rn - 1 - q : Nat) : Int) by omega]; push_cast; rfl)
       simp only [↓sx0, sxE, encs, sevalprocAttr]
       refine DrawW.plan Tok mixed (.q 0 <| .q 1 <| .q 2 <| .q 3 <| .q 4 <| .q 5 <| .q 6 <| .q 7 <| .q 8 <| .q 9 <| .q 10 <| .q 11 <| .q 12 <| .e 13 [2] <| .e 14 [] <| .q 15 <| .q 16 <| .e 17 [] <| .done) (by kernel_rfl) (by kernel_rfl) ?_
       simp only [↓sx0, sxE, encs, sevalprocAttr]
       repeat ((with_reducible refine Vc.go ?_ fun _ => ?_); (focus (first | omega | (simp only [InK]; omega) | (simp [InK]; done) | (simp [InK]; omega))); simp only [↓sx0, sxE, encs, sevalprocAttr])
       refine IxW.map _ i1.1 i1.2 ?_
       simp only [↓sx0, sxE, encs, sevalprocAttr]
       (with_reducible refine Vc.go ?_ fun hvx => ?_); focus (simp only [grid_length, gridRow_length, InK]; omega)
       clear hvx
       simp only [↓sx0, sxE, encs, sevalprocAttr]
       repeat ((with_reducible refine Vc.go ?_ fun _ => ?_); (focus (first | omega | (simp only [InK]; omega) | (simp [InK]; done) | (simp [InK]; omega))); simp only [↓sx0, sxE, encs, sevalprocAttr])
       refine IxW.map _ i2.1 i2.2 ?_
       simp only [↓sx0, sxE, encs, sevalprocAttr]
       repeat ((with_reducible refine Vc.go ?_ fun _ => ?_); (focus (first | omega | (simp only [InK]; omega) | (simp [InK]; done) | (simp [InK]; omega))); simp only [↓sx0, sxE, encs, sevalprocAttr])
       (with_reducible refine Vc.go ?_ fun hvx => ?_); focus (simp only [grid_length, gridRow_length, InK]; omega)
       clear hvx
       simp only [↓sx0, sxE, encs, sevalprocAttr]
       repeat ((with_reducible refine Vc.go ?_ fun _ => ?_); (focus (first | omega | (simp only [InK]; omega) | (simp [InK]; done) | (simp [InK]; omega))); simp only [↓sx0, sxE, encs, sevalprocAttr])
       refine ⟨k + 1, StLe.auto (by simp only [sx2, encs, sxR, sevalprocAttr] <;> (try simp [gridRow_succ, hvA, hvB, swp, swd, encs]) <;> (try omega)), ?_, ?_⟩
       ·omega
       ·omega
      ·simp only [↓sx0, sxE, encs, sevalprocAttr]
       have : k = (cn / 2) := by omega
       subst this
       repeat ((with_reducible refine Vc.go ?_ fun _ => ?_); (focus (first | omega | (simp only [InK]; omega) | (simp [InK]; done) | (simp [InK]; omega))); simp only [↓sx0, sxE, encs, sevalprocAttr])
       refine ⟨q + 1, StLe.auto (by simp only [sx2, encs, sxR, sevalprocAttr] <;> (try simp [grid_succ, encs]) <;> (try omega)), ?_, ?_⟩
       ·omega
       ·omega
     ·simp only [↓sx0, sxE, encs, sevalprocAttr]
      have : q = rn := by omega
      subst this
      refine EndW.fn ?_ ?_ <;> simp only [sx4, encs, kpLL_map, sxR, sevalprocAttr] <;> (try simp [halvesS, he0, hln0, hb, hod2, hvC, hvR]) <;> (try omega)
set_option maxHeartbeats 1000000 in
theorem halvesD_s (b : Bool) (c r : Int) (l : List Cell) : Ctr Tryz.prog 17 [.agg [(.v (.int .i64 c)), (.v (.int .i64 r)), .sl b 4 (l.map eC)], (.v (.bool (true)))] (fun rr => rr = ⟨.tup [.agg [(.v (.int .i64 ((halvesS true c r l).1))), (.v (.int .i64 ((halvesS true c r l).2.1))), .sl true 4 ((halvesS true c r l).2.2.1.map eC), (.v (.int .i64 ((halvesS true c r l).1))), (.v (.int .i64 ((halvesS true c r l).2.1))), .sl true 4 ((halvesS true c r l).2.2.2.1.map eC)], (.v (.int .i64 ((halvesS true c r l).2.2.2.2)))], []⟩) := by
 refine Ctr.of (rs := [.cell 4 49, .tmp 5]) Tok true Tryz.func17 rfl rfl rfl rfl (by simp [ofDL]) (fun w0 kp => ?_)
 simp only [↓sx0, sxE, encs, sevalprocAttr]
 refine CallI.fn (checkSheet_s c r) (by simp only [sx3, encs, sxR, sevalprocAttr] <;> (try simp) <;> (try rfl)) ?_
 simp only [↓sx0, sxE, encs, sevalprocAttr]
 refine BrW.dec (fun he => ?_) (fun he => ?_)
 ·simp only [↓sx0, sxE, encs, sevalprocAttr]
  refine EndW.fn ?_ ?_ <;> simp only [sx4, encs, kpLL_map, sxR, sevalprocAttr] <;> (try simp [halvesS, he]) <;> (try omega)
 ·have he0 : sheetErr c r = 0 := Decidable.not_not.1 he
  have hsh := sheet_ok he0
  have b1 : c * r ≤ 8 * 8 := Int.mul_le_mul hsh.2.1 hsh.2.2.2 (by omega) (by omega)
  have b2 : 0 ≤ c * r := Int.mul_nonneg (by omega) (by omega)
  obtain ⟨cn, rfl⟩ : ∃ cn : Nat, c = cn := ⟨c.toNat, by omega⟩
  obtain ⟨rn, rfl⟩ : ∃ rn : Nat, r = rn := ⟨r.toNat, by omega⟩
  simp only [↓sx0, sxE, encs, sevalprocAttr]
  refine DrawW.plan Tok mixed (.q 0 <| .q 1 <| .q 2 <| .q 3 <| .q 4 <| .q 5 <| .q 6 <| .done) (by kernel_rfl) (by kernel_rfl) ?_
  simp only [↓sx0, sxE, encs, sevalprocAttr]
  rw [quo2]
  (with_reducible refine Vc.go ?_ fun _ => ?_); focus (first | omega | (simp only [InK]; omega) | (simp [InK]; done) | (simp [InK]; omega))
  simp only [↓sx0, sxE, encs, sevalprocAttr]
  rw [rem2]
  repeat ((with_reducible refine Vc.go ?_ fun _ => ?_); (focus (first | omega | (simp only [InK]; omega) | (simp [InK]; done) | (simp [InK]; omega))); simp only [↓sx0, sxE, encs, sevalprocAttr])
  refine DrawW.plan Tok mixed (.q 0 <| .q 1 <| .q 2 <| .q 3 <| .q 4 <| .q 5 <| .q 6 <| .q 7 <| .q 8 <| .q 9 <| .q 10 <| .q 11 <| .done) (by kernel_rfl) (by kernel_rfl) ?_
  simp only [↓sx0, sxE, encs, sevalprocAttr]
  rw [quo2]
  (with_reducible refine Vc.go ?_ fun _ => ?_); focus (first | omega | (simp only [InK]; omega) | (simp [InK]; done) | (simp [InK]; omega))
  simp only [↓sx0, sxE, encs, sevalprocAttr]
  rw [rem2]
  repeat ((with_reducible refine Vc.go ?_ fun _ => ?_); (focus (first | omega | (simp only [InK]; omega) | (simp [InK]; done) | (simp [InK]; omega))); simp only [↓sx0, sxE, encs, sevalprocAttr])
  refine BrW.dec (fun hln => ?_) (fun hln => ?_)
  ·simp only [↓sx0, sxE, encs, sevalprocAttr]
   refine EndW.fn ?_ ?_ <;> simp only [sx4, encs, kpLL_map, sxR, sevalprocAttr] <;> (try simp [halvesS, he0, hln]) <;> (try omega)
  ·simp only [↓sx0, sxE, encs, sevalprocAttr]
   have hln0 := Decidable.not_not.1 hln
   refine CallI.fn (containsCells_s b 53 (fun x => !(ceOk x)) l (by omega) (fun x => halves1_s x.front x.fturn x.back x.bturn)) (by simp only [sx3, encs, sxR, sevalprocAttr] <;> (try simp) <;> (try rfl)) ?_
   simp only [↓sx0, sxE, encs, sevalprocAttr]
   refine BrW.of (fun hb => ?_) (fun hb => ?_)
   ·simp only [↓sx0, sxE, encs, sevalprocAttr]
    refine EndW.fn ?_ ?_ <;> simp only [sx4, encs, kpLL_map, sxR, sevalprocAttr] <;> (try simp [halvesS, he0, hln0, hb]) <;> (try omega)
   ·simp only [↓sx0, sxE, encs, sevalprocAttr]
    have hlr : l.length = rn * cn := by
     have : (l.length : Int) = ((rn * cn : Nat) : Int) := by rw [hln0]; push_cast; exact Int.mul_comm _ _
     exact_mod_cast this
    refine BrW.dec (fun hod => ?_) (fun hod => ?_)
    ·have hod2 : hvOdd true cn rn = true := by simp only [hvOdd, Bool.false_eq_true, if_false, if_true, decide_eq_true_eq]; omega
     simp only [↓sx0, sxE, encs, sevalprocAttr]
     refine EndW.fn ?_ ?_ <;> simp only [sx4, encs, kpLL_map, sxR, sevalprocAttr] <;> (try simp [halvesS, he0, hln0, hb, hod2]) <;> (try omega)
    ·have hod2 : hvOdd true cn rn = false := by simp only [hvOdd, Bool.false_eq_true, if_false, if_true, decide_eq_false_iff_not]; omega
     simp only [↓sx0, sxE, encs, sevalprocAttr]
     refine LoopW.comp [1, 2, 4, 8, 11, 70, 71] (by simp only [sx2, encs, sxR, sevalprocAttr] <;> (try simp) <;> (try omega)) ?_
     simp only [sx2, sxR, sevalprocAttr]
     refine LoopW.up Tok (fun q : Nat => [(71, (.v (.int .i64 q)))]) (fun q => [(3, [(.v (.int .i64 cn)), (.v (.int .i64 ((rn / 2)))), .row 0, (.v (.int .i64 cn)), (.v (.int .i64 ((rn / 2)))), .row 1])]) (fun q => []) (fun q => [.own 63 4 ((grid cn q (hvA cn l)).map eC), .own 63 4 ((grid cn q (hvB true cn rn l)).map eC)]) (fun q => q ≤ (rn / 2)) (fun q => (rn / 2) - q) (0) (by simp only [sx2, encs, sxR, sevalprocAttr] <;> (try simp) <;> (try omega)) ?_ ?_
     ·omega
     rintro q hq1
     simp only [↓sx0, sxE, encs, sevalprocAttr]
     refine BrW.dec (fun hlt => ?_) (fun hlt => ?_)
     ·simp only [↓sx0, sxE, encs, sevalprocAttr]
      have hq2 : q < (rn / 2) := by omega
      have hq3 : q < rn := by omega
      refine LoopW.comp [1, 2, 4, 8, 11, 12, 70, 71, 74, 75] (by simp only [sx2, encs, sxR, sevalprocAttr] <;> (try simp) <;> (try omega)) ?_
      simp only [sx2, sxR, sevalprocAttr]
      refine LoopW.up Tok (fun k : Nat => [(75, (.v (.int .i64 k)))]) (fun k => []) (fun k => [(0, ((grid cn q (hvA cn l)) ++ gridRow k (hvA cn l) q).map eC), (1, ((grid cn q (hvB true cn rn l)) ++ gridRow k (hvB true cn rn l) q).map eC)]) (fun k => []) (fun k => k ≤ cn) (fun k => cn - k) (0) (by simp only [sx2, encs, sxR, sevalprocAttr] <;> (try simp) <;> (try omega)) ?_ ?_
      ·omega
      rintro k hk1
      have hlen := cell_lt (rows := rn) (cols := cn) hq3 (c := 0) (by omega)
      simp only [↓sx0, sxE, encs, sevalprocAttr]
      refine BrW.dec (fun hlt2 => ?_) (fun hlt2 => ?_)
      ·have hk2 : k < cn := by omega
       have hk3 : k < cn := by omega
       have hqk := cell_lt hq3 hk3
       have hqk2 := cell_lt hq2 hk2
       have hsz : (rn / 2) * cn ≤ 8 * 8 := Nat.mul_le_mul (by omega) (by omega)
       have i1 := twGet zC hlr hq3 hk3 (j := (q : Int) * cn + k) (by push_cast; rfl)
       have i2 := twGet zC hlr hq3 (show cn - 1 - k < cn by omega) (j := (q : Int) * cn + cn - 1 - k) (by push_cast; omega)
       have i3 := twGet zC hlr (show rn - 1 - q < rn by omega) hk3 (j := ((rn : Int) - 1 - q) * cn + k) (by rw [show ((rn : Int) - 1 - q) = ((rn - 1 - q : Nat) : Int) by omega]; push_cast; rfl)
       simp only [↓sx0, sxE, encs, sevalprocAttr]
       refine DrawW.plan Tok mixed (.q 0 <| .q 1 <| .q 2 <| .q 3 <| .q 4 <| .q 5 <| .q 6 <| .q 7 <| .q 8 <| .q 9 <| .q 10 <| .q 11 <| .q 12 <| .e 13 [2] <| .e 14 [] <| .q 15 <| .q 16 <| .e 17 [] <| .done) (by kernel_rfl) (by kernel_rfl) ?_
       simp only [↓sx0, sxE, encs, sevalprocAttr]
       repeat ((with_reducible refine Vc.go ?_ fun _ => ?_); (focus (first | omega | (simp only [InK]; omega) | (simp [InK]; done) | (simp [InK]; omega))); simp only [↓sx0, sxE, encs, sevalprocAttr])
       refine IxW.map _ i1.1 i1.2 ?_
       simp only [↓sx0, sxE, encs, sevalprocAttr]
       (with_reducible refine Vc.go ?_ fun hvx => ?_); focus (simp only [grid_length, gridRow_length, InK]; omega)
       clear hvx
       simp only [↓sx0, sxE, encs, sevalprocAttr]
       repeat ((with_reducible refine Vc.go ?_ fun _ => ?_); (focus (first | omega | (simp only [InK]; omega) | (simp [InK]; done) | (simp [InK]; omega))); simp only [↓sx0, sxE, encs, sevalprocAttr])
       refine IxW.map _ i2.1 i2.2 ?_
       simp only [↓sx0, sxE, encs, sevalprocAttr]
       have h4 := cell_lt (show rn - 1 - q < rn by omega) hk3
       have e4 : ((rn : Int) - 1 - q) * cn = (((rn - 1 - q) * cn : Nat) : Int) := by rw [show ((rn : Int) - 1 - q) = ((rn - 1 - q : Nat) : Int) by omega]; push_cast; rfl
       have hp3 := turns_ok hb i3.2
       repeat ((with_reducible refine Vc.go ?_ fun _ => ?_); (focus (first | omega | (simp only [InK]; omega) | (simp [InK]; done) | (simp [InK]; omega))); simp only [↓sx0, sxE, encs, sevalprocAttr])
       refine IxW.map _ i3.1 i3.2 ?_
       simp only [↓sx0, sxE, encs, sevalprocAttr]
       repeat ((with_reducible refine Vc.go ?_ fun _ => ?_); (focus (first | omega | (simp only [InK]; omega) | (simp [InK]; done) | (simp [InK]; omega))); simp only [↓sx0, sxE, encs, sevalprocAttr])
       (with_reducible refine Vc.go ?_ fun hvx => ?_); focus (simp only [grid_length, gridRow_length, InK]; omega)
       clear hvx
       simp only [↓sx0, sxE, encs, sevalprocAttr]
       repeat ((with_reducible refine Vc.go ?_ fun _ => ?_); (focus (first | omega | (simp only [InK]; omega) | (simp [InK]; done) | (simp [InK]; omega))); simp only [↓sx0, sxE, encs, sevalprocAttr])
       refine ⟨k + 1, StLe.auto (by simp only [sx2, encs, sxR, sevalprocAttr] <;> (try simp [gridRow_succ, hvA, hvB, swp, swd, encs]) <;> (try omega)), ?_, ?_⟩
       ·omega
       ·omega
      ·simp only [↓sx0, sxE, encs, sevalprocAttr]
       have : k = cn := by omega
       subst this
       repeat ((with_reducible refine Vc.go ?_ fun _ => ?_); (focus (first | omega | (simp only [InK]; omega) | (simp [InK]; done) | (simp [InK]; omega))); simp only [↓sx0, sxE, encs, sevalprocAttr])
       refine ⟨q + 1, StLe.auto (by simp only [sx2, encs, sxR, sevalprocAttr] <;> (try simp [grid_succ, encs]) <;> (try omega)), ?_, ?_⟩
       ·omega
       ·omega
     ·simp only [↓sx0, sxE, encs, sevalprocAttr]
      have : q = (rn / 2) := by omega
      subst this
      refine EndW.fn ?_ ?_ <;> simp only [sx4, encs, kpLL_map, sxR, sevalprocAttr] <;> (try simp [halvesS, he0, hln0, hb, hod2, hvC, hvR]) <;> (try omega)
end Go.Proofs.YtgiegokdcmkfeaaGreatDoor
/-
 Chapter 6, walks: halves of a sheet (the document's answer).
-/
namespace Go.Proofs.YtgiegokdcmkfeaaGreatDoor
open Go Go.Vx
set_option maxRecDepth 20000
def zc (p : Prop) [Decidable p] (n : Nat) : Int := if p then (n : Int) else 0
end Go.Proofs.YtgiegokdcmkfeaaGreatDoor
/-
 Chapter 6, walks: the law of halves.
-/
namespace Go.Proofs.YtgiegokdcmkfeaaGreatDoor
open Go Go.Vx
set_option maxRecDepth 20000
theorem halves_s (b d : Bool) (c r : Int) (l : List Cell) : Ctr Tryz.prog 17 [.agg [(.v (.int .i64 c)), (.v (.int .i64 r)), .sl b 4 (l.map eC)], (.v (.bool (d)))] (fun rr => rr = ⟨.tup [.agg [(.v (.int .i64 ((halvesS d c r l).1))), (.v (.int .i64 ((halvesS d c r l).2.1))), .sl true 4 ((halvesS d c r l).2.2.1.map eC), (.v (.int .i64 ((halvesS d c r l).1))), (.v (.int .i64 ((halvesS d c r l).2.1))), .sl true 4 ((halvesS d c r l).2.2.2.1.map eC)], (.v (.int .i64 ((halvesS d c r l).2.2.2.2)))], []⟩) := by
 cases d
 ·exact halvesR_s b c r l
 ·exact halvesD_s b c r l
theorem halves_eq {d : Bool} {cn rn : Nat} {l : List Cell} (h0 : sheetErr cn rn = 0) (h1 : l.length = rn * cn) (h2 : l.any (fun x => !ceOk x) = false) (h3 : hvOdd d cn rn = false) :
  halvesS d cn rn l = (((hvC d cn : Nat) : Int), ((hvR d rn : Nat) : Int), grid (hvC d cn) (hvR d rn) (hvA cn l), grid (hvC d cn) (hvR d rn) (hvB d cn rn l), 0) := by
 have e : (l.length : Int) = (cn : Int) * rn := by rw [h1]; push_cast; exact Int.mul_comm _ _
 simp only [halvesS, h0, e, h2, h3, Int.toNat_natCast, ne_eq, not_true_eq_false, if_false, Bool.false_eq_true]
def ovC (cn : Nat) (l : List Cell) (k q : Nat) : Cell := swp (l.getD (q * cn + (cn - 1 - k)) zC)
theorem grid_getD {α : Type} (z : α) {cols rows c r : Nat} (f : Nat → Nat → α) (hr : r < rows) (hc : c < cols) : (grid cols rows f).getD (r * cols + c) z = f c r := by
 rw [List.getD_eq_getElem?_getD, grid_get cols f rows r c hr hc]; rfl
theorem grid_mem {α : Type} {cols rows : Nat} {f : Nat → Nat → α} {x : α} (h : x ∈ grid cols rows f) : ∃ c r, c < cols ∧ r < rows ∧ x = f c r := by
 simp only [grid, gridRow, List.mem_flatMap, List.mem_map, List.mem_range] at h
 obtain ⟨r, hr, c, hc, rfl⟩ := h
 exact ⟨c, r, hc, hr, rfl⟩
end Go.Proofs.YtgiegokdcmkfeaaGreatDoor
/-
 Chapter 6, walks: both sides in one forme.
-/
namespace Go.Proofs.YtgiegokdcmkfeaaGreatDoor
open Go Go.Vx
set_option maxRecDepth 20000
def cmC (t : Bool) (c : Nat) : Nat := if t then c else 2 * c
def cmR (t : Bool) (r : Nat) : Nat := if t then 2 * r else r
def cmP (t : Bool) (c r : Nat) (l : List Cell) (k q : Nat) : Page :=
 if k < c ∧ q < r then ⟨(l.getD (q * c + k) zC).front, (l.getD (q * c + k) zC).fturn⟩ else
  if t then ⟨(l.getD ((2 * r - 1 - q) * c + k) zC).back, 1 - (l.getD ((2 * r - 1 - q) * c + k) zC).bturn⟩ else ⟨(l.getD (q * c + (2 * c - 1 - k)) zC).back, (l.getD (q * c + (2 * c - 1 - k)) zC).bturn⟩
def cmS (t : Bool) (c r : Nat) (l : List Cell) : Int × Int × List Page × Bool :=
 if sheetErr (cmC t c : Nat) (cmR t r : Nat) ≠ 0 then (0, 0, [], false) else ((cmC t c : Nat), (cmR t r : Nat), grid (cmC t c) (cmR t r) (cmP t c r l), true)
theorem cmS_ok {t : Bool} {c r : Nat} {l : List Cell} (h : sheetErr (cmC t c : Nat) (cmR t r : Nat) = 0) : cmS t c r l = (((cmC t c : Nat) : Int), ((cmR t r : Nat) : Int), grid (cmC t c) (cmR t r) (cmP t c r l), true) := if_neg (fun k => k h)
theorem cmS_no {t : Bool} {c r : Nat} {l : List Cell} (h : ¬ sheetErr (cmC t c : Nat) (cmR t r : Nat) = 0) : cmS t c r l = (0, 0, [], false) := if_pos h
theorem schK_cl {n : Nat} : ∀ {l : List Cell} {seen : List Int} {i : Nat}, (schK n seen i l).2 = 0 → ∀ x ∈ l, clOk n x = true
 | [], _, _, _, x, hx => by simp at hx
 | y :: l, seen, i, h, x, hx => by
  unfold schK at h
  by_cases h1 : clOk n y = false
  ·rw [if_pos h1] at h; simp at h
  ·rw [if_neg h1] at h
   by_cases h2 : y.front ∈ seen ∨ y.back ∈ seen ∨ y.front = y.back
   ·rw [if_pos h2] at h; simp at h
   ·rw [if_neg h2] at h
    rcases List.mem_cons.1 hx with rfl | hx
    ·simpa using h1
    ·exact schK_cl h x hx
theorem sch_cl {c r : Int} {l : List Cell} (h : (schS c r l).2 = 0) : ∀ x ∈ l, clOk l.length x = true := by
 obtain ⟨cn, rn, rfl, rfl, h1, h2, h3, h4, h5, h6⟩ := sch_fine h
 have e : (l.length : Int) = (cn : Int) * rn := by rw [h5]; push_cast; exact Int.mul_comm _ _
 unfold schS at h
 rw [if_neg (by simp [h6]), if_neg (by simp [e])] at h
 exact schK_cl h
theorem sch_turn {cn rn : Nat} {l : List Cell} (h : (schS cn rn l).2 = 0) {q k : Nat} (hl : l.length = rn * cn) (hq : q < rn) (hk : k < cn) : 0 ≤ (l.getD (q * cn + k) zC).bturn ∧ (l.getD (q * cn + k) zC).bturn ≤ 1 := by
 have i := (twGet zC hl hq hk rfl).2
 have := clOk_iff.1 (sch_cl h _ (List.mem_of_getElem? i))
 omega
theorem comb1R_s (b b2 b3 b4 : Bool) (cn rn k q : Nat) (l : List Cell) (hl : l.length = rn * cn) (hc : cn ≤ 8) (hr : rn ≤ 8) (_hs : (schS cn rn l).2 = 0) (hk : k < (2 * cn)) (hq : q < rn) :
  Ctr Tryz.prog 48 [(.v (.int .i64 k)), (.v (.int .i64 q)), .pt b2 [(.v (.int .i64 cn)), (.v (.int .i64 rn)), .sl b 4 (l.map eC)], .pt b3 [(.v (.int .i64 (((2 * cn) : Nat))))], .pt b4 [(.v (.int .i64 ((rn : Nat))))]] (fun rr => rr = ⟨.agg [(.v (.int .i64 ((cmP false cn rn l k q).page))), (.v (.int .i64 ((cmP false cn rn l k q).turn)))], []⟩) := by
 have hrc : rn * cn ≤ 8 * 8 := Nat.mul_le_mul hr hc
 refine Ctr.of (rs := [.cell 7 117]) Tok true Tryz.func48 rfl rfl rfl rfl (by simp [ofDL]) (fun w0 kp => ?_)
 simp only [↓sx0, sxE, encs, sevalprocAttr]
 refine BrW.dec (fun h1 => ?_) (fun h1 => ?_)
 ·have hk1 : 2 * cn - 1 - k < cn := by omega
  have hqk := cell_lt hq hk1
  have i1 := twGet zC hl hq hk1 (j := (q : Int) * cn + ((2 * cn : Nat) : Int) - 1 - k) (by push_cast; omega)
  simp only [↓sx0, sxE, encs, sevalprocAttr]
  repeat ((with_reducible refine Vc.go ?_ fun _ => ?_); (focus (first | omega | (simp only [InK]; omega) | (simp [InK]; done) | (simp [InK]; omega))); simp only [↓sx0, sxE, encs, sevalprocAttr])
  refine IxW.map _ i1.1 i1.2 ?_
  simp only [↓sx0, sxE, encs, sevalprocAttr]
  have hno : ¬ (k < cn ∧ q < rn) := by omega
  refine EndW.fn ?_ ?_ <;> simp only [sx4, encs, kpLL_map, sxR, sevalprocAttr] <;> (try simp [cmP, hno]) <;> (try omega)
 ·simp only [↓sx0, sxE, encs, sevalprocAttr]
  refine BrW.dec (fun h2 => ?_) (fun h2 => ?_)
  ·exfalso; omega
  ·have hk1 : k < cn := by omega
   have hqk := cell_lt hq hk1
   have i1 := twGet zC hl hq hk1 (j := (q : Int) * cn + k) (by push_cast; rfl)
   simp only [↓sx0, sxE, encs, sevalprocAttr]
   repeat ((with_reducible refine Vc.go ?_ fun _ => ?_); (focus (first | omega | (simp only [InK]; omega) | (simp [InK]; done) | (simp [InK]; omega))); simp only [↓sx0, sxE, encs, sevalprocAttr])
   refine IxW.map _ i1.1 i1.2 ?_
   simp only [↓sx0, sxE, encs, sevalprocAttr]
   have hyes : k < cn ∧ q < rn := ⟨hk1, hq⟩
   refine EndW.fn ?_ ?_ <;> simp only [sx4, encs, kpLL_map, sxR, sevalprocAttr] <;> (try simp [cmP, hyes]) <;> (try omega)
theorem combR_s (b : Bool) (cn rn : Nat) (l : List Cell) (hs : (schS cn rn l).2 = 0) : Ctr Tryz.prog 15 [.agg [(.v (.int .i64 cn)), (.v (.int .i64 rn)), .sl b 4 (l.map eC)], (.v (.bool (false)))] (fun rr => rr = ⟨.tup [.agg [(.v (.int .i64 ((cmS false cn rn l).1))), (.v (.int .i64 ((cmS false cn rn l).2.1))), .sl true 2 ((cmS false cn rn l).2.2.1.map eP)], (.v (.int .i64 (if (cmS false cn rn l).2.2.2 = true then 0 else 8)))], []⟩) := by
 obtain ⟨cn', rn', e1, e2, h1, h2, h3, h4, h5, -⟩ := sch_fine hs
 obtain rfl : cn = cn' := by omega
 obtain rfl : rn = rn' := by omega
 refine Ctr.of (rs := [.cell 4 45, .tmp 5]) Tok true Tryz.func15 rfl rfl rfl rfl (by simp [ofDL]) (fun w0 kp => ?_)
 simp only [↓sx0, sxE, encs, sevalprocAttr]
 refine CallI.fn (check_s b cn rn l) (by simp only [sx3, encs, sxR, sevalprocAttr] <;> (try simp) <;> (try rfl)) ?_
 simp only [↓sx0, sxE, encs, sevalprocAttr]
 refine BrW.ff (by simp [hs]) ?_
 simp only [↓sx0, sxE, encs, sevalprocAttr]
 refine DrawW.plan Tok mixed (.q 0 <| .q 1 <| .q 2 <| .q 3 <| .q 4 <| .e2 5 [1, 4] (.e 6 [1, 4] <| .e 7 [4] <| .e 8 [] <| .done) 6 [1, 4] (.e 5 [1, 4] <| .e 7 [4] <| .e 8 [] <| .done)) (by kernel_rfl) (by kernel_rfl) ?_
 simp only [↓sx0, sxE, encs, sevalprocAttr]
 repeat ((with_reducible refine Vc.go ?_ fun _ => ?_); (focus (first | omega | (simp only [InK]; omega) | (simp [InK]; done) | (simp [InK]; omega))); simp only [↓sx0, sxE, encs, sevalprocAttr])
 refine ⟨?_, ?_⟩
 all_goals
  have e3 : (2 * (cn : Int)) = ((2 * cn : Nat) : Int) := by push_cast; rfl
  rw [e3]
  refine CallI.fn (checkSheet_s ((2 * cn) : Nat) (rn : Nat)) (by simp only [sx3, encs, sxR, sevalprocAttr] <;> (try simp) <;> (try rfl)) ?_
  simp only [↓sx0, sxE, encs, sevalprocAttr]
  refine BrW.dec (fun hk => ?_) (fun hk => ?_)
  ·have hk2 : ¬ sheetErr (cmC false cn : Nat) (cmR false rn : Nat) = 0 := hk
   rw [cmS_no hk2]
   simp only [↓sx0, sxE, encs, sevalprocAttr]
   refine EndW.fn ?_ ?_ <;> simp only [sx4, encs, kpLL_map, sxR, sevalprocAttr] <;> (try simp) <;> (try omega)
  ·have hk2 : sheetErr (cmC false cn : Nat) (cmR false rn : Nat) = 0 := Decidable.not_not.1 hk
   simp only [↓sx0, sxE, encs, sevalprocAttr]
   refine CallI.fn (viewOf_s 48 [.pt false [(.v (.int .i64 cn)), (.v (.int .i64 rn)), .sl b 4 (l.map eC)], .pt false [(.v (.int .i64 (((2 * cn) : Nat))))], .pt false [(.v (.int .i64 ((rn : Nat))))]] (by intro; rfl) (by intro β γ; simp [leL, leV]) (by intro rw bx; simp [argOk, lendA, lendO, argO, ofD, leV]) (2 * cn) rn (cmP false cn rn l) (fun k q h1 h2 => comb1R_s b false false false cn rn k q l h5 (by omega) (by omega) hs h1 h2) (by omega) (by omega)) (by simp only [sx3, encs, sxR, sevalprocAttr] <;> (try simp) <;> (try rfl)) ?_
   simp only [↓sx0, sxE, encs, sevalprocAttr]
   rw [cmS_ok hk2]
   refine EndW.fn ?_ ?_ <;> simp only [sx4, encs, kpLL_map, sxR, sevalprocAttr] <;> (try simp [cmC, cmR]) <;> (try omega)
theorem comb1D_s (b b2 b3 b4 : Bool) (cn rn k q : Nat) (l : List Cell) (hl : l.length = rn * cn) (hc : cn ≤ 8) (hr : rn ≤ 8) (_hs : (schS cn rn l).2 = 0) (hk : k < cn) (hq : q < (2 * rn)) :
  Ctr Tryz.prog 48 [(.v (.int .i64 k)), (.v (.int .i64 q)), .pt b2 [(.v (.int .i64 cn)), (.v (.int .i64 rn)), .sl b 4 (l.map eC)], .pt b3 [(.v (.int .i64 ((cn : Nat))))], .pt b4 [(.v (.int .i64 (((2 * rn) : Nat))))]] (fun rr => rr = ⟨.agg [(.v (.int .i64 ((cmP true cn rn l k q).page))), (.v (.int .i64 ((cmP true cn rn l k q).turn)))], []⟩) := by
 have hrc : rn * cn ≤ 8 * 8 := Nat.mul_le_mul hr hc
 refine Ctr.of (rs := [.cell 7 117]) Tok true Tryz.func48 rfl rfl rfl rfl (by simp [ofDL]) (fun w0 kp => ?_)
 simp only [↓sx0, sxE, encs, sevalprocAttr]
 refine BrW.dec (fun h1 => ?_) (fun h1 => ?_)
 ·exfalso; omega
 ·simp only [↓sx0, sxE, encs, sevalprocAttr]
  refine BrW.dec (fun h2 => ?_) (fun h2 => ?_)
  ·have hk1 : k < cn := by omega
   have hq1 : 2 * rn - 1 - q < rn := by omega
   have hqk := cell_lt hq1 hk1
   have e4 : ((2 * rn : Nat) : Int) - 1 - q = ((2 * rn - 1 - q : Nat) : Int) := by omega
   have e5 : ((2 * rn - 1 - q : Nat) : Int) * cn = (((2 * rn - 1 - q) * cn : Nat) : Int) := by push_cast; rfl
   have i1 := twGet zC hl hq1 hk1 (j := (((2 * rn - 1 - q) * cn : Nat) : Int) + k) (by push_cast; rfl)
   have ht := sch_turn _hs hl hq1 hk1
   simp only [↓sx0, sxE, encs, sevalprocAttr]
   repeat ((with_reducible refine Vc.go ?_ fun _ => ?_); (focus (first | omega | (simp only [InK]; omega) | (simp [InK]; done) | (simp [InK]; omega))); simp only [↓sx0, sxE, encs, sevalprocAttr])
   rw [e4]
   repeat ((with_reducible refine Vc.go ?_ fun _ => ?_); (focus (first | omega | (simp only [InK]; omega) | (simp [InK]; done) | (simp [InK]; omega))); simp only [↓sx0, sxE, encs, sevalprocAttr])
   rw [e5]
   repeat ((with_reducible refine Vc.go ?_ fun _ => ?_); (focus (first | omega | (simp only [InK]; omega) | (simp [InK]; done) | (simp [InK]; omega))); simp only [↓sx0, sxE, encs, sevalprocAttr])
   refine IxW.map _ i1.1 i1.2 ?_
   simp only [↓sx0, sxE, encs, sevalprocAttr]
   repeat ((with_reducible refine Vc.go ?_ fun _ => ?_); (focus (first | omega | (simp only [InK]; omega) | (simp [InK]; done) | (simp [InK]; omega))); simp only [↓sx0, sxE, encs, sevalprocAttr])
   have hno : ¬ (k < cn ∧ q < rn) := by omega
   refine EndW.fn ?_ ?_ <;> simp only [sx4, encs, kpLL_map, sxR, sevalprocAttr] <;> (try simp [cmP, hno]) <;> (try omega)
  ·have hk1 : k < cn := by omega
   have hq1 : q < rn := by omega
   have hqk := cell_lt hq1 hk1
   have i1 := twGet zC hl hq1 hk1 (j := (q : Int) * cn + k) (by push_cast; rfl)
   simp only [↓sx0, sxE, encs, sevalprocAttr]
   repeat ((with_reducible refine Vc.go ?_ fun _ => ?_); (focus (first | omega | (simp only [InK]; omega) | (simp [InK]; done) | (simp [InK]; omega))); simp only [↓sx0, sxE, encs, sevalprocAttr])
   refine IxW.map _ i1.1 i1.2 ?_
   simp only [↓sx0, sxE, encs, sevalprocAttr]
   have hyes : k < cn ∧ q < rn := ⟨hk1, hq1⟩
   refine EndW.fn ?_ ?_ <;> simp only [sx4, encs, kpLL_map, sxR, sevalprocAttr] <;> (try simp [cmP, hyes]) <;> (try omega)
theorem combD_s (b : Bool) (cn rn : Nat) (l : List Cell) (hs : (schS cn rn l).2 = 0) : Ctr Tryz.prog 15 [.agg [(.v (.int .i64 cn)), (.v (.int .i64 rn)), .sl b 4 (l.map eC)], (.v (.bool (true)))] (fun rr => rr = ⟨.tup [.agg [(.v (.int .i64 ((cmS true cn rn l).1))), (.v (.int .i64 ((cmS true cn rn l).2.1))), .sl true 2 ((cmS true cn rn l).2.2.1.map eP)], (.v (.int .i64 (if (cmS true cn rn l).2.2.2 = true then 0 else 8)))], []⟩) := by
 obtain ⟨cn', rn', e1, e2, h1, h2, h3, h4, h5, -⟩ := sch_fine hs
 obtain rfl : cn = cn' := by omega
 obtain rfl : rn = rn' := by omega
 refine Ctr.of (rs := [.cell 4 45, .tmp 5]) Tok true Tryz.func15 rfl rfl rfl rfl (by simp [ofDL]) (fun w0 kp => ?_)
 simp only [↓sx0, sxE, encs, sevalprocAttr]
 refine CallI.fn (check_s b cn rn l) (by simp only [sx3, encs, sxR, sevalprocAttr] <;> (try simp) <;> (try rfl)) ?_
 simp only [↓sx0, sxE, encs, sevalprocAttr]
 refine BrW.ff (by simp [hs]) ?_
 simp only [↓sx0, sxE, encs, sevalprocAttr]
 refine DrawW.plan Tok mixed (.q 0 <| .q 1 <| .q 2 <| .q 3 <| .q 4 <| .e2 5 [1, 4] (.e 6 [1, 4] <| .e 7 [4] <| .e 8 [] <| .done) 6 [1, 4] (.e 5 [1, 4] <| .e 7 [4] <| .e 8 [] <| .done)) (by kernel_rfl) (by kernel_rfl) ?_
 simp only [↓sx0, sxE, encs, sevalprocAttr]
 repeat ((with_reducible refine Vc.go ?_ fun _ => ?_); (focus (first | omega | (simp only [InK]; omega) | (simp [InK]; done) | (simp [InK]; omega))); simp only [↓sx0, sxE, encs, sevalprocAttr])
 refine ⟨?_, ?_⟩
 all_goals
  refine DrawW.plan Tok mixed (.q 0 <| .q 1 <| .q 2 <| .q 3 <| .q 4 <| .e 5 [3] <| .e 6 [] <| .done) (by kernel_rfl) (by kernel_rfl) ?_
  simp only [↓sx0, sxE, encs, sevalprocAttr]
  repeat ((with_reducible refine Vc.go ?_ fun _ => ?_); (focus (first | omega | (simp only [InK]; omega) | (simp [InK]; done) | (simp [InK]; omega))); simp only [↓sx0, sxE, encs, sevalprocAttr])
  have e3 : (2 * (rn : Int)) = ((2 * rn : Nat) : Int) := by push_cast; rfl
  rw [e3]
  refine CallI.fn (checkSheet_s (cn : Nat) ((2 * rn) : Nat)) (by simp only [sx3, encs, sxR, sevalprocAttr] <;> (try simp) <;> (try rfl)) ?_
  simp only [↓sx0, sxE, encs, sevalprocAttr]
  refine BrW.dec (fun hk => ?_) (fun hk => ?_)
  ·have hk2 : ¬ sheetErr (cmC true cn : Nat) (cmR true rn : Nat) = 0 := hk
   rw [cmS_no hk2]
   simp only [↓sx0, sxE, encs, sevalprocAttr]
   refine EndW.fn ?_ ?_ <;> simp only [sx4, encs, kpLL_map, sxR, sevalprocAttr] <;> (try simp) <;> (try omega)
  ·have hk2 : sheetErr (cmC true cn : Nat) (cmR true rn : Nat) = 0 := Decidable.not_not.1 hk
   simp only [↓sx0, sxE, encs, sevalprocAttr]
   refine CallI.fn (viewOf_s 48 [.pt false [(.v (.int .i64 cn)), (.v (.int .i64 rn)), .sl b 4 (l.map eC)], .pt false [(.v (.int .i64 ((cn : Nat))))], .pt false [(.v (.int .i64 (((2 * rn) : Nat))))]] (by intro; rfl) (by intro β γ; simp [leL, leV]) (by intro rw bx; simp [argOk, lendA, lendO, argO, ofD, leV]) cn (2 * rn) (cmP true cn rn l) (fun k q h1 h2 => comb1D_s b false false false cn rn k q l h5 (by omega) (by omega) hs h1 h2) (by omega) (by omega)) (by simp only [sx3, encs, sxR, sevalprocAttr] <;> (try simp) <;> (try rfl)) ?_
   simp only [↓sx0, sxE, encs, sevalprocAttr]
   rw [cmS_ok hk2]
   refine EndW.fn ?_ ?_ <;> simp only [sx4, encs, kpLL_map, sxR, sevalprocAttr] <;> (try simp [cmC, cmR]) <;> (try omega)
end Go.Proofs.YtgiegokdcmkfeaaGreatDoor
/-
 Chapter 6: what is written of a scheme is read again.
-/
namespace Go.Proofs.YtgiegokdcmkfeaaGreatDoor
open Go Go.Vx Go.Lib
theorem itoa_natX {n : Int} (h : 0 ≤ n) : itoa n = decDigits n.toNat := by rw [itoa, if_neg (by omega)]
theorem n4R_itoa {n : Int} (h : 0 ≤ n ∧ n ≤ 9999) : n4R (itoa n) = (n, true) ∧ ∀ c ∈ itoa n, 48 ≤ c.toNat := by
 rw [itoa_natX h.1]
 have ha := dec_all n.toNat
 have hne := dec_ne n.toNat
 have hv := dec_val n.toNat
 have hl := dec_len 3 n.toNat (by omega)
 have hd : ∀ c ∈ decDigits n.toNat, 48 ≤ c.toNat ∧ c.toNat ≤ 57 := fun c hc => by
  have := List.all_eq_true.1 ha c hc
  simpa [dgB] using this
 have h0 : ¬ ((decDigits n.toNat).head? = some 48 ∧ 1 < (decDigits n.toNat).length) := fun ⟨e1, e2⟩ => by
  by_cases hz : n.toNat = 0
  ·rw [hz, decDigits, dif_pos (by omega)] at e2; simp at e2
  ·obtain ⟨c, r, e3, e4⟩ := dec_head n.toNat (by omega)
   rw [e3] at e1
   simp only [List.head?_cons, Option.some.injEq] at e1
   rw [e1] at e4; exact e4 rfl
 have h45 : (decDigits n.toNat).head? ≠ some 45 := fun e => by
  cases hq : decDigits n.toNat with
  | nil => rw [hq] at e; cases e
  | cons c r =>
   rw [hq] at e
   simp only [List.head?_cons, Option.some.injEq] at e
   have := hd c (by rw [hq]; simp)
   rw [e] at this
   exact absurd this.1 (by decide)
 refine ⟨?_, fun c hc => (hd c hc).1⟩
 unfold n4R numR
 rw [if_neg h45, if_neg (fun h => by
  rcases h with h | h | h
  ·exact hne h
  ·omega
  ·exact h0 h), if_pos ha, hv]
 simp only [Prod.mk.injEq, and_true]; omega
theorem cutC_join (c : UInt8) : ∀ (W : List (List UInt8)), W ≠ [] → (∀ w ∈ W, ¬ c ∈ w) → cutL c [] (Lib.join W [c]) = W
 | [], h, _ => absurd rfl h
 | [w], _, h => by rw [Lib.join_one, cut_miss _ _ (h w (by simp))]; rfl
 | w :: v :: r, _, h => by
  have ih := cutC_join c (v :: r) (by simp) (fun x hx => h x (List.mem_cons_of_mem _ hx))
  have hj : Lib.join (w :: v :: r) [c] = w ++ c :: Lib.join (v :: r) [c] := by
   rw [Lib.join_cons, Lib.join_cons]; simp [Lib.joinTail]
  rw [hj, cut_hit w [] _ (h w (by simp)), ih]; rfl
/-! both read alike -/
theorem n4_same (w : List UInt8) : (n4P w).2 = (n4R w).2 ∧ ((n4R w).2 = true → (n4P w).1 = (n4R w).1) := num_same w 4 (by omega)
theorem celK_same (x : List UInt8) : celK n4P x = celK n4R x := by
 unfold celK
 rcases cutL 47 [] x with _ | ⟨a, _ | ⟨b, _ | ⟨c, _ | ⟨d, _ | ⟨e, r⟩⟩⟩⟩⟩
 all_goals try rfl
 simp only
 obtain ⟨a1, a2⟩ := n4_same a; obtain ⟨b1, b2⟩ := n4_same b; obtain ⟨c1, c2⟩ := n4_same c; obtain ⟨d1, d2⟩ := n4_same d
 rw [a1, b1, c1, d1]
 split
 ·rename_i h
  rw [a2 h.1, b2 h.2.1, c2 h.2.2.1, d2 h.2.2.2]
 ·rfl
theorem hedK_same (x : List UInt8) : hedK n4P x = hedK n4R x := by
 unfold hedK
 rcases cutL 32 [] x with _ | ⟨a, _ | ⟨b, _ | ⟨c, r⟩⟩⟩
 all_goals try rfl
 simp only
 obtain ⟨a1, a2⟩ := n4_same a; obtain ⟨b1, b2⟩ := n4_same b
 rw [a1, b1]
 split
 ·rename_i h
  rw [a2 h.1, b2 h.2]
 ·rfl
theorem rowG_same : ∀ (ws : List (List UInt8)) (acc : List Cell), rowG n4P ws acc = rowG n4R ws acc
 | [], _ => rfl
 | x :: xs, acc => by rw [rowG, rowG, celK_same, rowG_same xs]
theorem schL_same (c r : Int) : ∀ (ps : List (List UInt8)) (i : Int) (cells : List Cell) (ws : List Int), schL n4P c r i cells ws ps = schL n4R c r i cells ws ps
 | [], _, _, _ => rfl
 | [l], _, _, _ => rfl
 | p :: q :: ps, i, cells, ws => by rw [schL, schL, rowG_same, schL_same c r (q :: ps)]
theorem parS_same (t : List UInt8) : parS n4P t = parS n4R t := by
 rw [parS, parS]
 split
 ·rfl
 ·rcases cutL 10 [] t with _ | ⟨p, _ | ⟨q, ps⟩⟩
  ·rfl
  ·rfl
  ·rw [schG, schG, hedK_same, schL_same]
/-! what is written is read -/
def okC (x : Cell) : Prop := (0 ≤ x.front ∧ x.front ≤ 9999) ∧ (0 ≤ x.fturn ∧ x.fturn ≤ 9999) ∧ (0 ≤ x.back ∧ x.back ≤ 9999) ∧ (0 ≤ x.bturn ∧ x.bturn ≤ 9999)
theorem not_in {w : List UInt8} {c : UInt8} (h : ∀ d ∈ w, 48 ≤ d.toNat) (hc : c.toNat < 48) : ¬ c ∈ w := fun hm => by have := h c hm; omega
theorem celT_ge {x : Cell} (h : okC x) : ∀ d ∈ celT x, 47 ≤ d.toNat := by
 obtain ⟨h1, h2, h3, h4⟩ := h
 have g1 := (n4R_itoa h1).2; have g2 := (n4R_itoa h2).2; have g3 := (n4R_itoa h3).2; have g4 := (n4R_itoa h4).2
 intro d hd
 rw [celT_eq] at hd
 simp only [List.mem_append, List.mem_cons] at hd
 rcases hd with hd | rfl | hd | rfl | hd | rfl | hd
 ·have := g1 d hd; omega
 ·decide
 ·have := g2 d hd; omega
 ·decide
 ·have := g3 d hd; omega
 ·decide
 ·have := g4 d hd; omega
theorem cel_back {x : Cell} (h : okC x) : celK n4R (celT x) = (x, true) := by
 obtain ⟨h1, h2, h3, h4⟩ := h
 have g1 := n4R_itoa h1; have g2 := n4R_itoa h2; have g3 := n4R_itoa h3; have g4 := n4R_itoa h4
 have hc : cutL 47 [] (celT x) = [itoa x.front, itoa x.fturn, itoa x.back, itoa x.bturn] := cutC_join 47 _ (by simp) fun w hw => by
  simp only [List.mem_cons, List.not_mem_nil, or_false] at hw
  rcases hw with rfl | rfl | rfl | rfl
  ·exact not_in g1.2 (by decide)
  ·exact not_in g2.2 (by decide)
  ·exact not_in g3.2 (by decide)
  ·exact not_in g4.2 (by decide)
 unfold celK
 rw [hc]
 simp only [g1.1, g2.1, g3.1, g4.1]
 simp
theorem row_back : ∀ (l acc : List Cell), (∀ x ∈ l, okC x) → rowG n4R (l.map celT) acc = (acc ++ l, true)
 | [], acc, _ => by simp [rowG]
 | x :: l, acc, h => by
  rw [List.map_cons, rowG, cel_back (h x (by simp)), if_pos rfl, row_back l _ fun y hy => h y (List.mem_cons_of_mem _ hy)]
  simp
def rowW (l : List Cell) : List UInt8 := Lib.join (l.map celT) [32]
theorem rowW_no {l : List Cell} (h : ∀ x ∈ l, okC x) : ¬ (10 : UInt8) ∈ rowW l := by
 have : ∀ W : List (List UInt8), (∀ w ∈ W, ∀ d ∈ w, 47 ≤ d.toNat) → ∀ d ∈ Lib.join W [32], 32 ≤ d.toNat := by
  intro W
  induction W with
  | nil => intro _ d hd; simp [Lib.join] at hd
  | cons w W ih =>
   intro h d hd
   cases W with
   | nil =>
    rw [Lib.join_one] at hd
    have := h w (by simp) d hd; omega
   | cons v r =>
    have hj : Lib.join (w :: v :: r) [32] = w ++ 32 :: Lib.join (v :: r) [32] := by
     rw [Lib.join_cons, Lib.join_cons]; simp [Lib.joinTail]
    rw [hj, List.mem_append, List.mem_cons] at hd
    rcases hd with hd | rfl | hd
    ·have := h w (by simp) d hd; omega
    ·decide
    ·exact ih (fun x hx => h x (List.mem_cons_of_mem _ hx)) d hd
 intro hm
 have := this (l.map celT) (fun w hw => by
  obtain ⟨x, hx, rfl⟩ := List.mem_map.1 hw
  exact celT_ge (h x hx)) 10 hm
 exact absurd this (by decide)
theorem rowW_cut {l : List Cell} (hl : l ≠ []) (h : ∀ x ∈ l, okC x) : cutL 32 [] (rowW l) = l.map celT :=
 cutC_join 32 _ (by simpa using hl) fun w hw hm => by
  obtain ⟨x, hx, rfl⟩ := List.mem_map.1 hw
  exact absurd (celT_ge (h x hx) 32 hm) (by decide)
def okR (row : List Cell) : Prop := row ≠ [] ∧ ∀ x ∈ row, okC x
theorem rows_cut : ∀ R : List (List Cell), (∀ row ∈ R, okR row) → cutL 10 [] ((R.map rowT).flatten) = R.map rowW ++ [[]]
 | [], _ => rfl
 | row :: R, h => by
  have h1 := h row (by simp)
  have e : ((row :: R).map rowT).flatten = rowW row ++ 10 :: (R.map rowT).flatten := by simp [rowT, rowW]
  rw [e, cut_hit (rowW row) [] _ (rowW_no h1.2), rows_cut R fun x hx => h x (List.mem_cons_of_mem _ hx)]
  simp
theorem schL_rows (c r : Int) : ∀ (R : List (List Cell)) (i : Int) (cells : List Cell) (ws : List Int), (∀ row ∈ R, okR row) → schL n4R c r i cells ws (R.map rowW ++ [[]]) = finS c r (cells ++ R.flatten) (ws ++ R.map fun row => (row.length : Int))
 | [], i, cells, ws, _ => by simp [schL]
 | row :: R, i, cells, ws, h => by
  have h1 := h row (by simp)
  have h2 := schL_rows c r R (i + 1) (cells ++ row) (ws ++ [(row.length : Int)]) fun x hx => h x (List.mem_cons_of_mem _ hx)
  obtain ⟨q, qs, hq⟩ : ∃ q qs, R.map rowW ++ [[]] = q :: qs := by
   cases R with
   | nil => exact ⟨_, _, rfl⟩
   | cons x R => exact ⟨_, _, rfl⟩
  have hr : rowG n4R (cutL 32 [] (rowW row)) [] = (row, true) := by
   rw [rowW_cut h1.1 h1.2, row_back row [] h1.2, List.nil_append]
  rw [hq] at h2
  rw [List.map_cons, List.cons_append, hq, schL, hr, if_pos rfl]
  simp only
  rw [h2]
  simp
def chs (l : List Cell) (n k : Nat) : List (List Cell) := (List.range k).map (ckP l n)
theorem chs_flat (l : List Cell) (n : Nat) : ∀ k, (chs l n k).flatten = l.take (k * n)
 | 0 => by simp [chs]
 | k + 1 => by
  have ih := chs_flat l n k
  have e : chs l n (k + 1) = chs l n k ++ [ckP l n k] := by simp [chs, List.range_succ]
  rw [e, List.flatten_append, ih, Nat.succ_mul, List.take_add]
  simp [ckP]
theorem rowsT_chs (l : List Cell) (n k : Nat) : rowsT l n k = ((chs l n k).map rowT).flatten := by simp [rowsT, chs]; rfl
theorem sch_back {cn rn : Nat} {l : List Cell} (hs : (schS cn rn l).2 = 0) : parS n4R (schT cn rn l) = (((cn : Int), (rn : Int), l), 0, 0) ∧ (schT cn rn l).length ≤ 60000 ∧ ∀ w ∈ cutL 10 [] (schT cn rn l), w.length ≤ 1000 := by
 obtain ⟨cn', rn', e1, e2, hc1, hc8, hr1, hr8, hlen, -⟩ := sch_fine hs
 obtain rfl : cn = cn' := by omega
 obtain rfl : rn = rn' := by omega
 have hrn : rn * cn ≤ 8 * 8 := Nat.mul_le_mul hr8 hc8
 have hcl := sch_cl hs
 have hok : ∀ x ∈ l, okC x := fun x hx => by
  have := clOk_iff.1 (hcl x hx)
  unfold okC; omega
 have hI : ∀ x ∈ l, CelI x := fun x hx => by
  have := clOk_iff.1 (hcl x hx)
  unfold CelI I64; omega
 have hR : ∀ row ∈ chs l cn rn, okR row ∧ row.length = cn := fun row hrow => by
  obtain ⟨j, hj, rfl⟩ := List.mem_map.1 hrow
  have hj : j < rn := by simpa using hj
  have h1 : (j + 1) * cn ≤ rn * cn := Nat.mul_le_mul_right cn hj
  have h2 : (j + 1) * cn = j * cn + cn := Nat.succ_mul j cn
  have h3 : (ckP l cn j).length = cn := by simp [ckP]; omega
  exact ⟨⟨fun e => by rw [e] at h3; simp at h3; omega, fun x hx => hok x (ckP_mem hx)⟩, h3⟩
 have hh : 10 ≤ 10 := Nat.le_refl _
 have g1 := n4R_itoa (n := (cn : Int)) ⟨by omega, by omega⟩
 have g2 := n4R_itoa (n := (rn : Int)) ⟨by omega, by omega⟩
 have hw10 : ¬ (10 : UInt8) ∈ itoa (cn : Int) ++ 32 :: itoa (rn : Int) := fun hm => by
  rw [List.mem_append, List.mem_cons] at hm
  rcases hm with hm | hm | hm
  ·exact not_in g1.2 (by decide) hm
  ·exact absurd hm (by decide)
  ·exact not_in g2.2 (by decide) hm
 have hT : schT cn rn l = (itoa (cn : Int) ++ 32 :: itoa (rn : Int)) ++ 10 :: ((chs l cn rn).map rowT).flatten := by
  rw [schT, hedT, rowsT_chs]; simp
 have hcut : cutL 10 [] (schT cn rn l) = (itoa (cn : Int) ++ 32 :: itoa (rn : Int)) :: ((chs l cn rn).map rowW ++ [[]]) := by
  rw [hT, cut_hit _ [] _ hw10, rows_cut _ fun row hrow => (hR row hrow).1]; simp
 have l1 := itoa_len (n := (cn : Int)) ⟨by omega, by omega⟩
 have l2 := itoa_len (n := (rn : Int)) ⟨by omega, by omega⟩
 have hlen2 : (schT cn rn l).length ≤ 60000 := by
  have h1 := rowsT_len (n := cn) hI rn
  have h2 : (89 * cn + 1) * rn ≤ (89 * 8 + 1) * 8 := Nat.mul_le_mul (by omega) (by omega)
  rw [schT, hedT]
  simp only [List.length_append, List.length_cons, List.length_nil]; omega
 have hchl : (chs l cn rn).length = rn := by simp [chs]
 have hfl : (chs l cn rn).flatten = l := by rw [chs_flat, ← hlen, List.take_length]
 have hhed : hedK n4R (itoa (cn : Int) ++ 32 :: itoa (rn : Int)) = (((cn : Int), (rn : Int)), true) := by
  unfold hedK
  rw [cut1_hit (not_in g1.2 (by decide)), cut1_miss (not_in g2.2 (by decide))]
  simp [g1.1, g2.1]
 refine ⟨?_, hlen2, fun w hw => ?_⟩
 ·rw [parS, if_neg (by omega), hcut]
  obtain ⟨q, qs, hq⟩ : ∃ q qs, (chs l cn rn).map rowW ++ [[]] = q :: qs := by
   cases (chs l cn rn) with
   | nil => exact ⟨_, _, rfl⟩
   | cons x R => exact ⟨_, _, rfl⟩
  rw [hq, schG, hhed, if_pos rfl]
  simp only
  rw [← hq, schL_rows _ _ _ _ _ _ fun row hrow => (hR row hrow).1, List.nil_append, List.nil_append, hfl, finS, if_neg ?_, if_pos hs]
  intro h
  rcases h with h | h
  ·rw [List.length_map, hchl] at h; exact h rfl
  ·rw [List.any_eq_true] at h
   obtain ⟨n, hn, h2⟩ := h
   obtain ⟨row, hrow, rfl⟩ := List.mem_map.1 hn
   rw [(hR row hrow).2] at h2
   simp at h2
 ·rw [hcut] at hw
  rcases List.mem_cons.1 hw with rfl | hw
  ·simp only [List.length_append, List.length_cons]; omega
  ·rcases List.mem_append.1 hw with hw | hw
   ·obtain ⟨row, hrow, rfl⟩ := List.mem_map.1 hw
    obtain ⟨⟨-, h2⟩, h3⟩ := hR row hrow
    have h4 := rowT_len (l := row) fun x hx => by
     have := h2 x hx
     unfold okC at this; unfold CelI I64; omega
    have h5 : (rowT row).length = (rowW row).length + 1 := by simp [rowT, rowW]
    omega
   ·simp at hw; subst hw; simp
end Go.Proofs.YtgiegokdcmkfeaaGreatDoor
/-
 Chapter 6, walks: a scheme written (the program, whole).
-/
namespace Go.Proofs.YtgiegokdcmkfeaaGreatDoor
open Go Go.Vx
set_option maxRecDepth 20000
def celL (l : List Cell) (k : Nat) : List (List UInt8) := (l.take k).map celT
theorem celL_succ {l : List Cell} {k : Nat} (h : k < l.length) : celL l (k + 1) = celL l k ++ [celT l[k]] := by
 rw [celL, List.take_succ_eq_append_getElem h, List.map_append]; rfl
set_option maxHeartbeats 16000000 in
theorem printS_s (c r : Int) (l : List Cell) (hI : ∀ x ∈ l, CelI x) : CtrK glob Tryz.prog 8 [.agg [(.v (.int .i64 c)), (.v (.int .i64 r)), .sl true 4 (l.map eC)]] (fun rr => rr = ⟨.tup [(.v (.string ((prtS c r l).1))), (.v (.int .i64 ((prtS c r l).2)))], []⟩) := by
 have encs := And.intro encs (And.intro sxFb (And.intro eT_def (And.intro (show ∀ l n, ckC l n = [.pt true [.sl true 4 (l.map eC)], .pt true [(.v (.int .i64 ((n : Int))))]] from fun _ _ => rfl) (show ∀ l n, rowsT l n 0 = [] from fun _ _ => rfl))))
 refine CtrK.of (rs := [.tmp 2, .tmp 3]) Tok true Tryz.func8 rfl rfl rfl rfl (by simp [ofDL]) (fun w0 kp hgl => ?_)
 simp only [↓sx0, sxE, encs, sevalprocAttr]
 refine CallI.fn (check_s true c r l) (by simp only [sx3, encs, sxR, sevalprocAttr] <;> (try simp) <;> (try rfl)) ?_
 simp only [↓sx0, sxE, encs, sevalprocAttr]
 refine BrW.dec (fun he => ?_) (fun he => ?_)
 ·rw [show prtS c r l = (⟨#[]⟩, (schS c r l).2) by rw [prtS, if_neg he]]
  simp only [↓sx0, sxE, encs, sevalprocAttr]
  refine EndW.fn ?_ ?_ <;> simp only [sx4, encs, kpLL_map, sxR, sevalprocAttr] <;> (try simp) <;> (try omega)
 ·have he : (schS c r l).2 = 0 := Decidable.not_not.1 he
  rw [show prtS c r l = (bs (schT c.toNat r.toNat l), 0) by rw [prtS, if_pos he]]
  obtain ⟨cn, rn, rfl, rfl, hc1, hc8, hr1, hr8, hlen, -⟩ := sch_fine he
  have hrn : rn * cn ≤ 8 * 8 := Nat.mul_le_mul hr8 hc8
  have z1 : I64 (cn : Int) := ⟨by omega, by omega⟩
  have z2 : I64 (rn : Int) := ⟨by omega, by omega⟩
  have l1 := itoa_len z1
  have l2 := itoa_len z2
  have cA := itoa_T cn z1
  have cB := itoa_T rn z2
  have s1 := bs_size (Lib.itoa cn)
  have s2 := bs_size (Lib.itoa rn)
  have s3 := sz1 32
  have s4 := sz1 10
  have hs : bs (Lib.itoa cn) ++ (⟨#[32]⟩ : ByteArray) ++ bs (Lib.itoa rn) ++ (⟨#[10]⟩ : ByteArray) = bs (hedT cn rn) := by
   rw [show (⟨#[32]⟩ : ByteArray) = bs [32] from rfl, b10, bs_add, bs_add, bs_add, hedT]; simp
  have hhl : (hedT cn rn).length ≤ 100 ∧ 0 < (hedT cn rn).length := by
   simp only [hedT, List.length_append, List.length_cons, List.length_nil]; omega
  have hhs := bs_size (hedT cn rn)
  have hit : ItCtrB Tryz.prog 72 29 [(.v (.int .i64 ((cn : Int)))), (.v (.int .i64 ((rn : Int)))), .sl true 4 (l.map eC)] (ckC l cn) (ckL l cn rn) := ItCtr.toB (chunkIt_s l cn rn (by omega) (by omega) (by omega) hlen) rfl
  simp only [↓sx0, sxE, encs, sevalprocAttr]
  refine DrawW.plan Tok mixed (.q 0 <| .q 1 <| .q 4 <| .q 5 <| .e 2 [5] <| .q 3 <| .e 6 [] <| .q 7 <| .q 8 <| .e 9 [] <| .done) (by kernel_rfl) (by kernel_rfl) ?_
  simp only [↓sx0, sxE, encs, sevalprocAttr]
  refine CallI.fnK (cA) glob_ok hgl rfl (by simp only [sx3, encs, sxR, sevalprocAttr] <;> (try simp) <;> (try rfl)) ?_
  simp only [↓sx0, sxE, encs, sevalprocAttr]
  repeat ((with_reducible refine Vc.go ?_ fun _ => ?_); (focus (first | omega | (simp only [InK]; omega) | (simp [ByteArray.size_append, s1, s2, s3, s4, InK]; done) | (simp [ByteArray.size_append, s1, s2, s3, s4, InK]; omega))); simp only [↓sx0, sxE, encs, sevalprocAttr])
  refine CallI.fnK (cB) glob_ok hgl rfl (by simp only [sx3, encs, sxR, sevalprocAttr] <;> (try simp) <;> (try rfl)) ?_
  simp only [↓sx0, sxE, encs, sevalprocAttr]
  repeat ((with_reducible refine Vc.go ?_ fun _ => ?_); (focus (first | omega | (simp only [InK]; omega) | (simp [ByteArray.size_append, s1, s2, s3, s4, InK]; done) | (simp [ByteArray.size_append, s1, s2, s3, s4, InK]; omega))); simp only [↓sx0, sxE, encs, sevalprocAttr])
  rw [hs]
  refine CallI.wstr0 wstr_s rfl (.inl rfl) (by omega) (by omega) ?_
  rw [bs_toList]
  simp only [↓sx0, sxE, encs, sevalprocAttr]
  refine CallI.fn (chunk_s l cn (by omega)) (by simp only [sx3, encs, sxR, sevalprocAttr] <;> (try simp) <;> (try rfl)) ?_
  simp only [↓sx0, sxE, encs, sevalprocAttr]
  refine RangeW.itB (k := 0) rfl Tok (fun _ => rfl) (fun hro => by first | rfl | exact (by rw [hro] at *; contradiction)) hit [(5, .box 1 0), (29, .clo 72 (ckC l cn))]
   [some ⟨29, [(.v (.int .i64 ((cn : Int)))), (.v (.int .i64 ((rn : Int)))), .sl true 4 (l.map eC)]⟩, some ⟨84, [.box 1 0, .row 0]⟩]
   (fun _ => [none, some ⟨84, [.box 1 0, .row 0]⟩])
   (fun ys => [.own 5 1 (byE (hedT cn rn ++ rowsT l cn ys.length))]) (fun _ => True) trivial (by simp only [sx2, encs, sxR, sevalprocAttr] <;> (try simp) <;> (try omega)) rfl rfl rfl rfl rfl (by simp [ckL, ckY]) ?_ (fun hJall => ?_)
  ·rintro pre d hpre - ρ σ μ ho' hy hs'
   obtain ⟨yd', ro, mks, fr, lp, sz⟩ := ho'
   obtain ⟨qq, hq⟩ := hpre
   have hk : pre.length < rn := by
    have := congrArg List.length hq
    simp [ckL] at this; omega
   have hd : d = ckY l cn pre.length := by
    have : (ckL l cn rn)[pre.length]? = some d := by rw [← hq]; simp
    simpa [ckL, List.getElem?_map, List.getElem?_range, hk, eq_comm] using this
   subst hd
   have hlp : (pre ++ [ckY l cn pre.length]).length = pre.length + 1 := by simp
   have hrs := rowsT_succ l cn pre.length
   have hrI : ∀ x ∈ ckP l cn pre.length, CelI x := fun x hx => hI x (ckP_mem hx)
   have hrl := ckP_len l cn pre.length
   have hrt := rowT_len hrI
   have hrr := rowsT_len (n := cn) hI pre.length
   have hrr2 : (89 * cn + 1) * pre.length ≤ (89 * 8 + 1) * 8 := Nat.mul_le_mul (by omega) (by omega)
   rw [hlp, hrs, ckY]
   generalize ckP l cn pre.length = row at *
   generalize rowsT l cn pre.length = txt at *
   have encs := And.intro encs (show celL row 0 = [] from rfl)
   have hcl : celL row row.length = row.map celT := by rw [celL, List.take_length]
   have hcll : (celL row row.length).length ≤ 8 := by rw [hcl, List.length_map]; omega
   have hjl : (Lib.join (celL row row.length) [32]).length ≤ 1000 := by
    have : (rowT row).length = (Lib.join (celL row row.length) [32]).length + 1 := by rw [rowT, hcl]; simp
    omega
   have hjs := bs_size (Lib.join (celL row row.length) [32])
   have hts := bs_size (rowT row)
   simp only [↓sx0, sxE, encs, sevalprocAttr]
   intro fr' hfr
   skip
   refine LoopW.comp [5, 7, 31, 32, 33] (by simp only [sx2, encs, sxR, sevalprocAttr] <;> (try simp) <;> (try omega)) ?_
   simp only [sx2, sxR, sevalprocAttr]
   refine LoopW.up Tok (fun j : Nat => [(7, .row 1), (33, (.v (.int .i64 ((j : Int)))))]) (fun j => []) (fun j => []) (fun j => [.own 9 1 ((celL row j).map eT)]) (fun j => j ≤ row.length) (fun j => row.length - j) (0) (by simp only [sx2, encs, sxR, sevalprocAttr] <;> (try simp [celL, encs]) <;> (try omega)) ?_ ?_
   ·omega
   rintro j hj
   simp only [↓sx0, sxE, encs, sevalprocAttr]
   refine BrW.dec (fun hlt => ?_) (fun hlt => ?_)
   ·have hjr : j < row.length := by omega
    have hsuc := celL_succ hjr
    have hcI := hrI _ (List.getElem_mem hjr)
    obtain ⟨i1, i2, i3, i4⟩ := hcI
    have k1 := itoa_T _ i1; have k2 := itoa_T _ i2; have k3 := itoa_T _ i3; have k4 := itoa_T _ i4
    have hcj : (celL row j).length ≤ 8 := by rw [celL, List.length_map, List.length_take]; omega
    have hcl2 := celT_len (hrI _ (List.getElem_mem hjr))
    have cJ := joinC_T false [Lib.itoa row[j].front, Lib.itoa row[j].fturn, Lib.itoa row[j].back, Lib.itoa row[j].bturn] 47 (by simp) (by have : (Lib.join [Lib.itoa row[j].front, Lib.itoa row[j].fturn, Lib.itoa row[j].back, Lib.itoa row[j].bturn] [47]).length ≤ 88 := hcl2; omega)
    have hce : celT row[j] = Lib.join [Lib.itoa row[j].front, Lib.itoa row[j].fturn, Lib.itoa row[j].back, Lib.itoa row[j].bturn] [47] := rfl
    rw [hce] at hsuc
    simp only [↓sx0, sxE, encs, sevalprocAttr]
    refine IxW.nat hjr ?_
    generalize row[j] = x at *
    simp only [↓sx0, sxE, encs, sevalprocAttr]
    refine DrawW.plan Tok mixed (.q 0 <| .q 1 <| .q 2 <| .q 4 <| .q 5 <| .q 7 <| .q 8 <| .q 10 <| .q 11 <| .e 3 [5, 8, 11] <| .e 6 [8, 11] <| .e 9 [11] <| .e 12 [] <| .e 13 [] <| .e 14 [] <| .e 15 [] <| .e 16 [] <| .q 17 <| .done) (by kernel_rfl) (by kernel_rfl) ?_
    simp only [↓sx0, sxE, encs, sevalprocAttr]
    refine CallI.fnKI (k1) glob_ok hgl rfl hfr (by simp only [sx3, encs, sxR, sevalprocAttr] <;> (try simp) <;> (try rfl)) ?_
    simp only [↓sx0, sxE, encs, sevalprocAttr]
    refine CallI.fnKI (k2) glob_ok hgl rfl hfr (by simp only [sx3, encs, sxR, sevalprocAttr] <;> (try simp) <;> (try rfl)) ?_
    simp only [↓sx0, sxE, encs, sevalprocAttr]
    refine CallI.fnKI (k3) glob_ok hgl rfl hfr (by simp only [sx3, encs, sxR, sevalprocAttr] <;> (try simp) <;> (try rfl)) ?_
    simp only [↓sx0, sxE, encs, sevalprocAttr]
    refine CallI.fnKI (k4) glob_ok hgl rfl hfr (by simp only [sx3, encs, sxR, sevalprocAttr] <;> (try simp) <;> (try rfl)) ?_
    simp only [↓sx0, sxE, encs, sevalprocAttr]
    refine CallI.fn (cJ) (by simp only [sx3, encs, sxR, sevalprocAttr] <;> (try simp) <;> (try rfl)) ?_
    simp only [↓sx0, sxE, encs, sevalprocAttr]
    repeat ((with_reducible refine Vc.go ?_ fun _ => ?_); (focus (first | omega | (simp only [InK]; omega) | (simp [InK]; done) | (simp [InK]; omega))); simp only [↓sx0, sxE, encs, sevalprocAttr])
    refine ⟨j + 1, StLe.auto (by simp only [sx2, encs, sxR, sevalprocAttr] <;> (try simp [hsuc, encs]) <;> (try omega)), ?_, ?_⟩
    ·omega
    ·omega
   ·simp only [↓sx0, sxE, encs, sevalprocAttr]
    have hke : j = row.length := by omega
    subst hke
    refine CallI.fn (joinC_T false (celL row row.length) 32 (by omega) (by omega)) (by simp only [sx3, encs, sxR, sevalprocAttr] <;> (try simp) <;> (try rfl)) ?_
    simp only [↓sx0, sxE, encs, sevalprocAttr]
    repeat ((with_reducible refine Vc.go ?_ fun _ => ?_); (focus (first | omega | (simp only [InK]; omega) | (simp [ByteArray.size_append, s4, hjs, InK]; done) | (simp [ByteArray.size_append, s4, hjs, InK]; omega))); simp only [↓sx0, sxE, encs, sevalprocAttr])
    rw [b10, bs_add, show Lib.join (celL row row.length) [32] ++ [10] = rowT row by rw [rowT, hcl]]
    refine CallI.wstr (l := hedT cn rn ++ txt) wstr_s rfl (.inr rfl) rfl (by rw [List.length_append]; omega) ?_
    rw [bs_toList, List.append_assoc]
    simp only [↓sx0, sxE, encs, sevalprocAttr]
    simp only [sx2, encs, sxR, sevalprocAttr] <;> (try simp) <;> (try omega)
  ·rw [show (ckL l cn rn).length = rn by simp [ckL]]
   simp only [↓sx0, sxE, encs, sevalprocAttr]
   refine CallI.bstr (l := hedT cn rn ++ rowsT l cn rn) bstr_s rfl rfl (fun e => ?_) ?_
   ·have := congrArg List.length e
    rw [List.length_append, List.length_nil] at this
    omega
   ·simp only [↓sx0, sxE, encs, sevalprocAttr]
    refine EndW.fn ?_ ?_ <;> simp only [sx4, encs, kpLL_map, sxR, sevalprocAttr] <;> (try simp [schT, bs]) <;> (try omega)
end Go.Proofs.YtgiegokdcmkfeaaGreatDoor
/-
 Chapter 6: what is printed on both sides, cut again (no program in sight).
-/
namespace Go.Proofs.YtgiegokdcmkfeaaGreatDoor
open Go Go.Vx
theorem grid_any {α : Type} {p : α → Bool} {cols rows : Nat} {f : Nat → Nat → α} (h : ∀ k q, k < cols → q < rows → p (f k q) = true) : (grid cols rows f).any (fun x => !p x) = false := by
 refine List.any_eq_false.2 fun x hx => ?_
 obtain ⟨k, q, hk, hq, rfl⟩ := grid_mem hx
 simp [h k q hk hq]
theorem cl_at {cn rn : Nat} {l : List Cell} (hs : (schS cn rn l).2 = 0) (hl : l.length = rn * cn) {q k : Nat} (hq : q < rn) (hk : k < cn) : clOk l.length (l.getD (q * cn + k) zC) = true :=
 sch_cl hs _ (List.mem_of_getElem? (twGet zC hl hq hk rfl).2)
theorem cmP_ok {t : Bool} {cn rn : Nat} {l : List Cell} (hs : (schS cn rn l).2 = 0) (hl : l.length = rn * cn) (hc : cn ≤ 8) (hr : rn ≤ 8) {k q : Nat} (hk : k < cmC t cn) (hq : q < cmR t rn) : pgOk (cmP t cn rn l k q) = true := by
 have hrc : rn * cn ≤ 8 * 8 := Nat.mul_le_mul hr hc
 unfold cmP
 by_cases h : k < cn ∧ q < rn
 ·have := clOk_iff.1 (cl_at hs hl h.2 h.1)
  simp only [if_pos h, pgOk, decide_eq_true_eq]; omega
 ·rw [if_neg h]
  cases t
  ·simp only [cmC, cmR, Bool.false_eq_true, if_false] at hk hq ⊢
   have := clOk_iff.1 (cl_at hs hl hq (show 2 * cn - 1 - k < cn by omega))
   simp only [pgOk, decide_eq_true_eq]; omega
  ·simp only [cmC, cmR, if_true] at hk hq ⊢
   have := clOk_iff.1 (cl_at hs hl (show 2 * rn - 1 - q < rn by omega) hk)
   simp only [pgOk, decide_eq_true_eq]; omega
theorem twCell_grid {t : Bool} {C R k q : Nat} (g : Nat → Nat → Page) (hk : k < C) (hq : q < R) :
  twCell t C R (grid C R g) k q = ⟨(g k q).page, (g k q).turn, if t then (g k (R - 1 - q)).page else (g (C - 1 - k) q).page, if t then 1 - (g k (R - 1 - q)).turn else (g (C - 1 - k) q).turn⟩ := by
 simp only [twCell, grid_getD zP g hq hk, grid_getD zP g (show R - 1 - q < R by omega) hk, grid_getD zP g hq (show C - 1 - k < C by omega)]
def cmV (t : Bool) (cn rn : Nat) (l : List Cell) : List Page := grid (cmC t cn) (cmR t rn) (cmP t cn rn l)
def cmX (t : Bool) (cn rn : Nat) (l : List Cell) : List Cell := grid (cmC t cn) (cmR t rn) (twCell t (cmC t cn) (cmR t rn) (cmV t cn rn l))
theorem cm_twice {t : Bool} {cn rn : Nat} {l : List Cell} (hs : (schS cn rn l).2 = 0) (hl : l.length = rn * cn) (hc : cn ≤ 8) (hr : rn ≤ 8) (hk : sheetErr (cmC t cn : Nat) (cmR t rn : Nat) = 0) :
  twiceS (cmC t cn : Nat) (cmR t rn : Nat) (cmV t cn rn l) t = (((cmC t cn : Nat) : Int), ((cmR t rn : Nat) : Int), cmX t cn rn l, 0) := by
 have e : ((cmV t cn rn l).length : Int) = ((cmC t cn : Nat) : Int) * ((cmR t rn : Nat) : Int) := by
  rw [cmV, grid_length]; push_cast; exact Int.mul_comm _ _
 have h3 : (cmV t cn rn l).any (fun x => !pgOk x) = false := grid_any fun k q hk hq => cmP_ok hs hl hc hr hk hq
 simp only [twiceS, hk, e, h3, ne_eq, not_true_eq_false, if_false, Bool.false_eq_true, Int.toNat_natCast]
 rfl
theorem pgOk_flip (p t : Int) : pgOk ⟨p, 1 - t⟩ = pgOk ⟨p, t⟩ := by
 simp only [pgOk, decide_eq_decide]; omega
theorem cm_ceOk {t : Bool} {cn rn : Nat} {l : List Cell} (hs : (schS cn rn l).2 = 0) (hl : l.length = rn * cn) (hc : cn ≤ 8) (hr : rn ≤ 8) : (cmX t cn rn l).any (fun x => !ceOk x) = false := by
 refine grid_any fun k q hk hq => ?_
 rw [cmV, twCell_grid _ hk hq]
 have h1 := cmP_ok hs hl hc hr hk hq
 simp only [ceOk, Bool.and_eq_true]
 refine ⟨h1, ?_⟩
 cases t
 ·simp only [Bool.false_eq_true, if_false]
  exact cmP_ok hs hl hc hr (show cmC false cn - 1 - k < cmC false cn by omega) hq
 ·simp only [if_true]
  rw [pgOk_flip]
  exact cmP_ok hs hl hc hr hk (show cmR true rn - 1 - q < cmR true rn by omega)
theorem cm_odd (t : Bool) (cn rn : Nat) : hvOdd t (cmC t cn) (cmR t rn) = false := by
 cases t <;> simp [hvOdd, cmC, cmR]
theorem cm_hC (t : Bool) (cn : Nat) : hvC t (cmC t cn) = cn := by cases t <;> simp [hvC, cmC]
theorem cm_hR (t : Bool) (rn : Nat) : hvR t (cmR t rn) = rn := by cases t <;> simp [hvR, cmR]
theorem cm_a {t : Bool} {cn rn : Nat} {l : List Cell} (hl : l.length = rn * cn) : grid cn rn (hvA (cmC t cn) (cmX t cn rn l)) = l := by
 conv => rhs; rw [← grid_selfG zC hl]
 refine grid_ext fun k q hk hq => ?_
 cases t
 ·have h1 : k < cmC false cn := by simp only [cmC, Bool.false_eq_true, if_false]; omega
  have h2 : q < cmR false rn := hq
  have e1 : k < cn ∧ q < rn := ⟨hk, hq⟩
  have e2 : ¬ (2 * cn - 1 - k < cn) := by omega
  rw [hvA, cmX, grid_getD zC _ h2 h1, cmV, twCell_grid _ h1 h2]
  simp only [Bool.false_eq_true, if_false, cmP, e1, cmC, e2, and_self, false_and, if_true, show 2 * cn - 1 - (2 * cn - 1 - k) = k by omega]
 ·have h1 : k < cmC true cn := hk
  have h2 : q < cmR true rn := by simp only [cmR, if_true]; omega
  have e1 : k < cn ∧ q < rn := ⟨hk, hq⟩
  have e2 : ¬ (2 * rn - 1 - q < rn) := by omega
  rw [hvA, cmX, grid_getD zC _ h2 h1, cmV, twCell_grid _ h1 h2]
  simp only [if_true, cmP, e1, cmR, e2, and_self, and_false, if_false, show 2 * rn - 1 - (2 * rn - 1 - q) = q by omega, Int.sub_sub_self]
theorem cm_b {t : Bool} {cn rn : Nat} {l : List Cell} (hl : l.length = rn * cn) : grid cn rn (hvB t (cmC t cn) (cmR t rn) (cmX t cn rn l)) = l := by
 conv => rhs; rw [← grid_selfG zC hl]
 refine grid_ext fun k q hk hq => ?_
 cases t
 ·have h1 : 2 * cn - 1 - k < cmC false cn := by simp only [cmC, Bool.false_eq_true, if_false]; omega
  have h2 : q < cmR false rn := hq
  have e1 : k < cn ∧ q < rn := ⟨hk, hq⟩
  have e2 : ¬ (2 * cn - 1 - k < cn) := by omega
  have e3 : cmC false cn - 1 - k = 2 * cn - 1 - k := rfl
  simp only [hvB, Bool.false_eq_true, if_false]
  rw [e3, cmX, grid_getD zC _ h2 h1, cmV, twCell_grid _ h1 h2]
  simp only [Bool.false_eq_true, if_false, cmP, e1, cmC, e2, and_self, false_and, if_true, show 2 * cn - 1 - (2 * cn - 1 - k) = k by omega, swp]
 ·have h1 : k < cmC true cn := hk
  have h2 : 2 * rn - 1 - q < cmR true rn := by simp only [cmR, if_true]; omega
  have e1 : k < cn ∧ q < rn := ⟨hk, hq⟩
  have e2 : ¬ (2 * rn - 1 - q < rn) := by omega
  have e3 : cmR true rn - 1 - q = 2 * rn - 1 - q := rfl
  simp only [hvB, if_true]
  rw [e3, cmX, grid_getD zC _ h2 h1, cmV, twCell_grid _ h1 h2]
  simp only [if_true, cmP, e1, cmR, e2, and_self, and_false, if_false, show 2 * rn - 1 - (2 * rn - 1 - q) = q by omega, swd, Int.sub_sub_self]
theorem cm_halves {t : Bool} {cn rn : Nat} {l : List Cell} (hs : (schS cn rn l).2 = 0) (hl : l.length = rn * cn) (hc : cn ≤ 8) (hr : rn ≤ 8) (hk : sheetErr (cmC t cn : Nat) (cmR t rn : Nat) = 0) :
  halvesS t (cmC t cn : Nat) (cmR t rn : Nat) (cmX t cn rn l) = ((cn : Int), (rn : Int), l, l, 0) := by
 rw [halves_eq hk (by rw [cmX, grid_length]) (cm_ceOk hs hl hc hr) (cm_odd t cn rn), cm_hC, cm_hR, cm_a hl, cm_b hl]
theorem cm_len {t : Bool} {cn rn : Nat} {l : List Cell} (hc : cn ≤ 8) (hr : rn ≤ 8) : (cmV t cn rn l).length ≤ 1000 := by
 have : cmR t rn * cmC t cn ≤ 16 * 16 := Nat.mul_le_mul (by unfold cmR; split <;> omega) (by unfold cmC; split <;> omega)
 rw [cmV, grid_length]; omega
end Go.Proofs.YtgiegokdcmkfeaaGreatDoor
/-
 Chapter 6, walks: the law of what is printed on both sides.
-/
namespace Go.Proofs.YtgiegokdcmkfeaaGreatDoor
open Go Go.Vx
set_option maxRecDepth 20000
theorem comb_s (b t : Bool) (cn rn : Nat) (l : List Cell) (hs : (schS cn rn l).2 = 0) : Ctr Tryz.prog 15 [.agg [(.v (.int .i64 cn)), (.v (.int .i64 rn)), .sl b 4 (l.map eC)], (.v (.bool (t)))] (fun rr => rr = ⟨.tup [.agg [(.v (.int .i64 ((cmS t cn rn l).1))), (.v (.int .i64 ((cmS t cn rn l).2.1))), .sl true 2 ((cmS t cn rn l).2.2.1.map eP)], (.v (.int .i64 (if (cmS t cn rn l).2.2.2 = true then 0 else 8)))], []⟩) := by
 cases t
 ·exact combR_s b cn rn l hs
 ·exact combD_s b cn rn l hs
end Go.Proofs.YtgiegokdcmkfeaaGreatDoor
/-
 Chapter 6: folds written (the reference).
-/
namespace Go.Proofs.YtgiegokdcmkfeaaGreatDoor
open Go Go.Vx
set_option maxRecDepth 20000
def InC (f : Fold) : Prop := -9223372036854775808 ≤ f.count ∧ f.count ≤ 9223372036854775807
def fmtK (l : List Fold) (k : Nat) : List UInt8 := Lib.join ((l.take k).map wrF) [32]
theorem join_snoc (xs : List (List UInt8)) (y sep : List UInt8) : Lib.join (xs ++ [y]) sep = if xs = [] then y else Lib.join xs sep ++ sep ++ y := by
 cases xs with
 | nil => rw [if_pos rfl]; exact Lib.join_one y sep
 | cons x r => rw [if_neg (by simp), List.cons_append, Lib.join_cons, Lib.join_cons]; simp [Lib.joinTail]
theorem fmtK_zero (l : List Fold) : fmtK l 0 = [] := rfl
theorem fmtK_succ {l : List Fold} {k : Nat} (h : k < l.length) : fmtK l (k + 1) = if k = 0 then wrF l[k] else fmtK l k ++ [32] ++ wrF l[k] := by
 rw [fmtK, List.take_succ_eq_append_getElem h, List.map_append, List.map_singleton, join_snoc]
 by_cases hk : k = 0
 ·subst hk; simp
 ·rw [if_neg hk, if_neg (by
   intro e
   have := congrArg List.length e
   rw [List.length_map, List.length_take] at this
   simp only [List.length_nil] at this
   omega)]; rfl
theorem itoaW_len {n : Int} (h : -9223372036854775808 ≤ n ∧ n ≤ 9223372036854775807) : (Lib.itoa n).length ≤ 21 := by
 rw [Lib.itoa]
 split
 ·have := dec_len 19 n.natAbs (by omega)
  simp only [List.length_cons]; omega
 ·have := dec_len 19 n.toNat (by omega)
  omega
theorem wrF_len {f : Fold} (h : InC f) : (wrF f).length ≤ 22 := by
 have := itoaW_len h
 unfold wrF
 repeat' split
 all_goals (simp only [List.length_cons, List.length_nil]; try omega)
theorem fmtK_len {l : List Fold} (h : ∀ f ∈ l, InC f) : ∀ k, k ≤ l.length → (fmtK l k).length ≤ 23 * k
 | 0, _ => by rw [fmtK_zero]; simp
 | k + 1, hk => by
  have ih := fmtK_len h k (by omega)
  have hw := wrF_len (h _ (List.getElem_mem (show k < l.length by omega)))
  rw [fmtK_succ (by omega)]
  split
  ·omega
  ·simp only [List.length_append, List.length_cons, List.length_nil]; omega
def lt6 (k : Int) : UInt8 := if k = 1 then 76 else if k = 2 then 82 else if k = 3 then 85 else if k = 4 then 68 else if k = 5 then 79 else 84
theorem leF_no {k : Int} (h : ¬ (1 ≤ k ∧ k ≤ 6)) : leF k = 63 := by
 unfold leF
 rw [if_neg (by omega), if_neg (by omega), if_neg (by omega), if_neg (by omega)]
end Go.Proofs.YtgiegokdcmkfeaaGreatDoor
