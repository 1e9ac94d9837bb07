/-
 Chapter 6, walks: a scheme written (reference).
-/
import Derived.Test.YtgiegokdcmkfeaaGreatDoorVGF
import Derived.Test.YtgiegokdcmkfeaaGreatDoorVGlobI
import Derived.Test.YtgiegokdcmkfeaaGreatDoorVGC
set_option linter.unusedSimpArgs false
set_option linter.unusedVariables false
namespace Go.Proofs.YtgiegokdcmkfeaaGreatDoor
open Go Go.Vx
set_option maxRecDepth 20000
theorem celT_eq (x : Cell) : celT x = Lib.itoa x.front ++ (47 :: (Lib.itoa x.fturn ++ (47 :: (Lib.itoa x.back ++ (47 :: Lib.itoa x.bturn))))) := by
 rw [celT]; simp [Lib.join_cons, Lib.joinTail]
/-- cells, each with a space behind. -/
def sepT (l : List Cell) (j : Nat) : List UInt8 := ((l.take j).map fun x => celT x ++ [32]).flatten
theorem sepT_succ {l : List Cell} {j : Nat} (h : j < l.length) : sepT l (j + 1) = sepT l j ++ (celT l[j] ++ [32]) := by
 rw [sepT, List.take_succ_eq_append_getElem h, List.map_append, List.flatten_append]; simp [sepT]
theorem rowT_snoc (x : Cell) : ∀ r : List Cell, rowT (r ++ [x]) = (r.map fun y => celT y ++ [32]).flatten ++ (celT x ++ [10])
 | [] => by simp [rowT, Lib.join_one]
 | a :: r => by
  have ih := rowT_snoc x r
  obtain ⟨b, r', hb⟩ : ∃ b r', (r ++ [x]).map celT = b :: r' := by
   cases r with
   | nil => exact ⟨_, _, rfl⟩
   | cons c r => exact ⟨_, _, rfl⟩
  have hj : Lib.join (celT a :: b :: r') [32] = celT a ++ 32 :: Lib.join (b :: r') [32] := by
   rw [Lib.join_cons, Lib.join_cons]; simp [Lib.joinTail]
  rw [rowT, hb] at ih
  rw [rowT, List.cons_append, List.map_cons, hb, hj]
  rw [List.append_assoc, List.cons_append, ih]
  simp
theorem row_end {l : List Cell} {n k : Nat} (hn : 0 < n) (h : k * n + (n - 1) < l.length) : rowT (ckP l n k) = sepT (l.drop (k * n)) (n - 1) ++ (celT l[k * n + (n - 1)] ++ [10]) := by
 have hd : n - 1 < (l.drop (k * n)).length := by rw [List.length_drop]; omega
 have e : ckP l n k = (l.drop (k * n)).take (n - 1) ++ [l[k * n + (n - 1)]] := by
  rw [ckP]
  conv => lhs; rw [show n = (n - 1) + 1 by omega]
  rw [show (k * (n - 1 + 1)) = k * n by rw [Nat.sub_add_cancel hn], List.take_succ_eq_append_getElem hd]
  simp
 rw [e, rowT_snoc]; rfl
theorem sepT_len {l : List Cell} (h : ∀ x ∈ l, CelI x) : ∀ j, (sepT l j).length ≤ 89 * j
 | 0 => by simp [sepT]
 | j + 1 => by
  have ih := sepT_len h j
  by_cases hj : j < l.length
  ·have := celT_len (h _ (List.getElem_mem hj))
   rw [sepT_succ hj]
   simp only [List.length_append, List.length_singleton]; omega
  ·have : sepT l (j + 1) = sepT l j := by rw [sepT, sepT, List.take_of_length_le (by omega), List.take_of_length_le (by omega)]
   rw [this]; omega
structure KJ where
 k : Nat
 j : Nat
set_option maxHeartbeats 16000000 in
theorem printSR_s (b : Bool) (cn rn : Nat) (l : List Cell) (hlen : l.length = rn * cn) (hc1 : 1 ≤ cn) (hc8 : cn ≤ 8) (hr8 : rn ≤ 8) (hI : ∀ x ∈ l, CelI x) : Ctr Tryz.prog 24 [.agg [(.v (.int .i64 ((cn : Int)))), (.v (.int .i64 ((rn : Int)))), .sl b 4 (l.map eC)]] (fun rr => rr = ⟨(.v (.string (bs (schT cn rn l)))), []⟩) := by
 have encs := And.intro encs (And.intro (show ∀ n, rowsT l n 0 = [] from fun _ => rfl) (show ∀ r, sepT r 0 = [] from fun _ => rfl))
 have hrn : rn * cn ≤ 8 * 8 := Nat.mul_le_mul hr8 hc8
 have z1 : I64 (cn : Int) := ⟨by omega, by omega⟩
 have z2 : I64 (rn : Int) := ⟨by omega, by omega⟩
 have l1 := itoa_len z1
 have l2 := itoa_len z2
 have s1 := bs_size (Lib.itoa cn)
 have s2 := bs_size (Lib.itoa rn)
 have s3 := sz1 32
 have s4 := sz1 10
 have s5 := sz1 47
 have hs : bs (Lib.itoa cn) ++ (⟨#[32]⟩ : ByteArray) ++ bs (Lib.itoa rn) ++ (⟨#[10]⟩ : ByteArray) = bs (hedT cn rn) := by
  rw [show (⟨#[32]⟩ : ByteArray) = bs [32] from rfl, b10, bs_add, bs_add, bs_add, hedT]; simp
 have hhl : (hedT cn rn).length ≤ 100 := by
  simp only [hedT, List.length_append, List.length_cons, List.length_nil]; omega
 have cA := decimal_s cn z1.1 z1.2
 have cB := decimal_s rn z2.1 z2.2
 refine Ctr.of (rs := [.tmp 2]) Tok true Tryz.func24 rfl rfl rfl rfl (by simp [ofDL]) (fun w0 kp => ?_)
 simp only [↓sx0, sxE, encs, sevalprocAttr]
 refine DrawW.plan Tok mixed (.q 0 <| .q 1 <| .q 4 <| .q 5 <| .e 2 [5] <| .q 3 <| .e 6 [] <| .q 7 <| .q 8 <| .q 9 <| .done) (by kernel_rfl) (by kernel_rfl) ?_
 simp only [↓sx0, sxE, encs, sevalprocAttr]
 refine CallI.fn (cA) (by simp only [sx3, encs, sxR, sevalprocAttr] <;> (try simp) <;> (try rfl)) ?_
 simp only [↓sx0, sxE, encs, sevalprocAttr]
 repeat ((with_reducible refine Vc.go ?_ fun _ => ?_); (focus (first | omega | (simp only [InK]; omega) | (simp [ByteArray.size_append, s1, s2, s3, s4, InK]; done) | (simp [ByteArray.size_append, s1, s2, s3, s4, InK]; omega))); simp only [↓sx0, sxE, encs, sevalprocAttr])
 refine CallI.fn (cB) (by simp only [sx3, encs, sxR, sevalprocAttr] <;> (try simp) <;> (try rfl)) ?_
 simp only [↓sx0, sxE, encs, sevalprocAttr]
 repeat ((with_reducible refine Vc.go ?_ fun _ => ?_); (focus (first | omega | (simp only [InK]; omega) | (simp [ByteArray.size_append, s1, s2, s3, s4, InK]; done) | (simp [ByteArray.size_append, s1, s2, s3, s4, InK]; omega))); simp only [↓sx0, sxE, encs, sevalprocAttr])
 rw [hs]
 refine LoopW.comp [1, 3, 4] (by simp only [sx2, encs, sxR, sevalprocAttr] <;> (try simp) <;> (try omega)) ?_
 simp only [sx2, sxR, sevalprocAttr]
 refine LoopW.up Tok (fun x : KJ => [(3, (.v (.string (bs (hedT cn rn ++ (rowsT l cn x.k ++ sepT (l.drop (x.k * cn)) x.j)))))), (4, (.v (.int .i64 (((x.k * cn + x.j : Nat) : Int)))))]) (fun x => []) (fun x => []) (fun x => []) (fun x => x.k ≤ rn ∧ x.j < cn ∧ x.k * cn + x.j ≤ l.length) (fun x => l.length - (x.k * cn + x.j)) (⟨0, 0⟩) (by simp only [sx2, encs, sxR, sevalprocAttr] <;> (try simp) <;> (try omega)) ?_ ?_
 ·exact ⟨by simp, by simp; omega, by simp⟩
 rintro ⟨k, j⟩ ⟨hk, hj, hkj⟩
 simp only at hk hj hkj
 have hkr : (89 * cn + 1) * k ≤ (89 * 8 + 1) * 8 := Nat.mul_le_mul (by omega) (by omega)
 have hr1 := rowsT_len (n := cn) hI k
 have hr2 := sepT_len (l := l.drop (k * cn)) (fun x hx => hI x (List.mem_of_mem_drop hx)) j
 have hTl : (hedT cn rn ++ (rowsT l cn k ++ sepT (l.drop (k * cn)) j)).length ≤ 100000 := by
  simp only [List.length_append]; omega
 have hTs := bs_size (hedT cn rn ++ (rowsT l cn k ++ sepT (l.drop (k * cn)) j))
 simp only [↓sx0, sxE, encs, sevalprocAttr]
 refine BrW.dec (fun hlt => ?_) (fun hlt => ?_)
 ·have hil : k * cn + j < l.length := by omega
  have hcI := hI _ (List.getElem_mem hil)
  have hcl := celT_len hcI
  have hce := celT_eq l[k * cn + j]
  have hdl : j < (l.drop (k * cn)).length := by rw [List.length_drop]; omega
  have hds : (l.drop (k * cn))[j] = l[k * cn + j] := by simp
  have hss := sepT_succ hdl
  rw [hds] at hss
  have hre : j + 1 = cn → rowsT l cn (k + 1) = rowsT l cn k ++ (sepT (l.drop (k * cn)) j ++ (celT l[k * cn + j] ++ [10])) := fun e => by
   have := row_end (l := l) (n := cn) (k := k) (by omega) (by omega)
   rw [rowsT_succ, this]
   simp only [show cn - 1 = j by omega]
  obtain ⟨i1, i2, i3, i4⟩ := hcI
  have k1 := decimal_s _ i1.1 i1.2; have k2 := decimal_s _ i2.1 i2.2; have k3 := decimal_s _ i3.1 i3.2; have k4 := decimal_s _ i4.1 i4.2
  have m1 := itoa_len i1; have m2 := itoa_len i2; have m3 := itoa_len i3; have m4 := itoa_len i4
  have b1 := bs_size (Lib.itoa l[k * cn + j].front); have b2 := bs_size (Lib.itoa l[k * cn + j].fturn); have b3 := bs_size (Lib.itoa l[k * cn + j].back); have b4 := bs_size (Lib.itoa l[k * cn + j].bturn)
  simp only [↓sx0, sxE, encs, sevalprocAttr]
  refine IxW.nat hil ?_
  generalize l[k * cn + j] = x at *
  generalize hT : hedT cn rn ++ (rowsT l cn k ++ sepT (l.drop (k * cn)) j) = T at *
  have hcat : bs T ++ bs (Lib.itoa x.front) ++ (⟨#[47]⟩ : ByteArray) ++ bs (Lib.itoa x.fturn) ++ (⟨#[47]⟩ : ByteArray) ++ bs (Lib.itoa x.back) ++ (⟨#[47]⟩ : ByteArray) ++ bs (Lib.itoa x.bturn) = bs (T ++ celT x) := by
   rw [show (⟨#[47]⟩ : ByteArray) = bs [47] from rfl, hce]
   simp only [bs_add]
   simp
  have hTx := bs_size (T ++ celT x)
  rw [List.length_append] at hTx
  simp only [↓sx0, sxE, encs, sevalprocAttr]
  refine DrawW.plan Tok mixed (.q 0 <| .q 1 <| .q 2 <| .q 6 <| .q 7 <| .q 11 <| .q 12 <| .q 16 <| .q 17 <| .e 3 [7, 12, 17] <| .q 4 <| .q 5 <| .e 8 [12, 17] <| .q 9 <| .q 10 <| .e 13 [17] <| .q 14 <| .q 15 <| .e 18 [] <| .q 19 <| .q 20 <| .done) (by kernel_rfl) (by kernel_rfl) ?_
  simp only [↓sx0, sxE, encs, sevalprocAttr]
  refine CallI.fn (k1) (by simp only [sx3, encs, sxR, sevalprocAttr] <;> (try simp) <;> (try rfl)) ?_
  simp only [↓sx0, sxE, encs, sevalprocAttr]
  repeat ((with_reducible refine Vc.go ?_ fun _ => ?_); (focus (first | omega | (simp only [InK]; omega) | (simp [ByteArray.size_append, b1, b2, b3, b4, s5, InK]; done) | (simp [ByteArray.size_append, b1, b2, b3, b4, s5, InK]; omega))); simp only [↓sx0, sxE, encs, sevalprocAttr])
  refine CallI.fn (k2) (by simp only [sx3, encs, sxR, sevalprocAttr] <;> (try simp) <;> (try rfl)) ?_
  simp only [↓sx0, sxE, encs, sevalprocAttr]
  repeat ((with_reducible refine Vc.go ?_ fun _ => ?_); (focus (first | omega | (simp only [InK]; omega) | (simp [ByteArray.size_append, b1, b2, b3, b4, s5, InK]; done) | (simp [ByteArray.size_append, b1, b2, b3, b4, s5, InK]; omega))); simp only [↓sx0, sxE, encs, sevalprocAttr])
  refine CallI.fn (k3) (by simp only [sx3, encs, sxR, sevalprocAttr] <;> (try simp) <;> (try rfl)) ?_
  simp only [↓sx0, sxE, encs, sevalprocAttr]
  repeat ((with_reducible refine Vc.go ?_ fun _ => ?_); (focus (first | omega | (simp only [InK]; omega) | (simp [ByteArray.size_append, b1, b2, b3, b4, s5, InK]; done) | (simp [ByteArray.size_append, b1, b2, b3, b4, s5, InK]; omega))); simp only [↓sx0, sxE, encs, sevalprocAttr])
  refine CallI.fn (k4) (by simp only [sx3, encs, sxR, sevalprocAttr] <;> (try simp) <;> (try rfl)) ?_
  simp only [↓sx0, sxE, encs, sevalprocAttr]
  repeat ((with_reducible refine Vc.go ?_ fun _ => ?_); (focus (first | omega | (simp only [InK]; omega) | (simp [ByteArray.size_append, b1, b2, b3, b4, s5, InK]; done) | (simp [ByteArray.size_append, b1, b2, b3, b4, s5, InK]; omega))); simp only [↓sx0, sxE, encs, sevalprocAttr])
  rw [hcat]
  have hmod : (((k * cn + j : Nat) : Int) + 1).tmod (cn : Int) = (((j + 1) % cn : Nat) : Int) := by
   have e : ((k * cn + j : Nat) : Int) + 1 = (((j + 1) + k * cn : Nat) : Int) := by omega
   rw [e, Int.tmod_eq_emod_of_nonneg (by omega), ← Int.natCast_emod, Nat.add_mul_mod_self_right]
  by_cases hj1 : j + 1 = cn
  ·have e1 : T ++ celT x ++ [10] = hedT cn rn ++ (rowsT l cn (k + 1) ++ sepT (l.drop ((k + 1) * cn)) 0) := by
    rw [hre hj1, ← hT]; simp [sepT]
   have hk1 : (k + 1) * cn = k * cn + cn := Nat.succ_mul k cn
   have hkr : k < rn := by
    apply Classical.byContradiction
    intro h
    have : k = rn := by omega
    subst this; omega
   have hk2 : (k + 1) * cn ≤ rn * cn := Nat.mul_le_mul_right cn hkr
   have e2 : ((k * cn + j : Nat) : Int) + 1 = (((k + 1) * cn + 0 : Nat) : Int) := by omega
   refine BrW.yes (by rw [hmod, hj1]; simp) ?_
   simp only [↓sx0, sxE, encs, sevalprocAttr]
   repeat ((with_reducible refine Vc.go ?_ fun _ => ?_); (focus (first | omega | (simp only [InK]; omega) | (simp [InK]; done) | (simp [InK]; omega))); simp only [↓sx0, sxE, encs, sevalprocAttr])
   rw [b10, bs_add, e1, e2]
   refine ⟨⟨k + 1, 0⟩, StLe.auto (by simp only [sx2, encs, sxR, sevalprocAttr] <;> (try simp) <;> (try omega)), ?_, ?_⟩
   ·exact ⟨by simp only; omega, by simp only; omega, by simp only; omega⟩
   ·simp only; omega
  ·have e1 : T ++ celT x ++ [32] = hedT cn rn ++ (rowsT l cn k ++ sepT (l.drop (k * cn)) (j + 1)) := by
    rw [hss, ← hT]; simp
   have e2 : ((k * cn + j : Nat) : Int) + 1 = ((k * cn + (j + 1) : Nat) : Int) := by omega
   refine BrW.no (by rw [hmod, Nat.mod_eq_of_lt (by omega)]; omega) ?_
   simp only [↓sx0, sxE, encs, sevalprocAttr]
   repeat ((with_reducible refine Vc.go ?_ fun _ => ?_); (focus (first | omega | (simp only [InK]; omega) | (simp [InK]; done) | (simp [InK]; omega))); simp only [↓sx0, sxE, encs, sevalprocAttr])
   rw [show (⟨#[32]⟩ : ByteArray) = bs [32] from rfl, bs_add, e1, e2]
   refine ⟨⟨k, j + 1⟩, StLe.auto (by simp only [sx2, encs, sxR, sevalprocAttr] <;> (try simp) <;> (try omega)), ?_, ?_⟩
   ·exact ⟨by simp only; omega, by simp only; omega, by simp only; omega⟩
   ·simp only; omega
 ·have hkr : k = rn := by
   apply Classical.byContradiction
   intro h
   have h1 : (k + 1) * cn ≤ rn * cn := Nat.mul_le_mul_right cn (by omega)
   have h2 : (k + 1) * cn = k * cn + cn := Nat.succ_mul k cn
   omega
  subst hkr
  have hj0 : j = 0 := by omega
  subst hj0
  simp only [↓sx0, sxE, encs, sevalprocAttr]
  refine EndW.fn ?_ ?_ <;> simp only [sx4, encs, kpLL_map, sxR, sevalprocAttr] <;> (try simp [schT, sepT]) <;> (try omega)
end Go.Proofs.YtgiegokdcmkfeaaGreatDoor
/-
 Chapter 6, walks: halves of a sheet (the program).
-/
namespace Go.Proofs.YtgiegokdcmkfeaaGreatDoor
open Go Go.Vx
set_option maxRecDepth 20000
def ceOk (x : Cell) : Bool := pgOk ⟨x.front, x.fturn⟩ && pgOk ⟨x.back, x.bturn⟩
def swp (x : Cell) : Cell := ⟨x.back, x.bturn, x.front, x.fturn⟩
def swd (x : Cell) : Cell := ⟨x.back, 1 - x.bturn, x.front, 1 - x.fturn⟩
def hvA (c : Nat) (l : List Cell) (k q : Nat) : Cell := l.getD (q * c + k) zC
def hvB (d : Bool) (c r : Nat) (l : List Cell) (k q : Nat) : Cell := if d then swd (l.getD ((r - 1 - q) * c + k) zC) else swp (l.getD (q * c + (c - 1 - k)) zC)
def hvC (d : Bool) (c : Nat) : Nat := if d then c else c / 2
def hvR (d : Bool) (r : Nat) : Nat := if d then r / 2 else r
def hvOdd (d : Bool) (c r : Nat) : Bool := decide ((if d then r else c) % 2 ≠ 0)
/-- columns, rows, both halves, the error. -/
def halvesS (d : Bool) (c r : Int) (l : List Cell) : Int × Int × List Cell × List Cell × Int :=
 if sheetErr c r ≠ 0 then (0, 0, [], [], sheetErr c r) else if ¬ (l.length : Int) = c * r then (0, 0, [], [], 10) else if l.any (fun x => !ceOk x) = true then (0, 0, [], [], 2) else
  if hvOdd d c.toNat r.toNat = true then (0, 0, [], [], 25) else (hvC d c.toNat, hvR d r.toNat, grid (hvC d c.toNat) (hvR d r.toNat) (hvA c.toNat l), grid (hvC d c.toNat) (hvR d r.toNat) (hvB d c.toNat r.toNat l), 0)
end Go.Proofs.YtgiegokdcmkfeaaGreatDoor
/-
 Chapter 6, walks: halves of a sheet (the document's answer).
-/
namespace Go.Proofs.YtgiegokdcmkfeaaGreatDoor
open Go Go.Vx
set_option maxRecDepth 20000
def zc (p : Prop) [Decidable p] (n : Nat) : Int := if p then (n : Int) else 0
end Go.Proofs.YtgiegokdcmkfeaaGreatDoor
/-
 Chapter 6, walks: the law of halves.
-/
namespace Go.Proofs.YtgiegokdcmkfeaaGreatDoor
open Go Go.Vx
set_option maxRecDepth 20000
def ovC (cn : Nat) (l : List Cell) (k q : Nat) : Cell := swp (l.getD (q * cn + (cn - 1 - k)) zC)
end Go.Proofs.YtgiegokdcmkfeaaGreatDoor
/-
 Chapter 6, walks: both sides in one forme.
-/
namespace Go.Proofs.YtgiegokdcmkfeaaGreatDoor
open Go Go.Vx
set_option maxRecDepth 20000
def cmC (t : Bool) (c : Nat) : Nat := if t then c else 2 * c
def cmR (t : Bool) (r : Nat) : Nat := if t then 2 * r else r
def cmP (t : Bool) (c r : Nat) (l : List Cell) (k q : Nat) : Page :=
 if k < c ∧ q < r then ⟨(l.getD (q * c + k) zC).front, (l.getD (q * c + k) zC).fturn⟩ else
  if t then ⟨(l.getD ((2 * r - 1 - q) * c + k) zC).back, 1 - (l.getD ((2 * r - 1 - q) * c + k) zC).bturn⟩ else ⟨(l.getD (q * c + (2 * c - 1 - k)) zC).back, (l.getD (q * c + (2 * c - 1 - k)) zC).bturn⟩
def cmS (t : Bool) (c r : Nat) (l : List Cell) : Int × Int × List Page × Bool :=
 if sheetErr (cmC t c : Nat) (cmR t r : Nat) ≠ 0 then (0, 0, [], false) else ((cmC t c : Nat), (cmR t r : Nat), grid (cmC t c) (cmR t r) (cmP t c r l), true)
theorem schK_cl {n : Nat} : ∀ {l : List Cell} {seen : List Int} {i : Nat}, (schK n seen i l).2 = 0 → ∀ x ∈ l, clOk n x = true
 | [], _, _, _, x, hx => by simp at hx
 | y :: l, seen, i, h, x, hx => by
  unfold schK at h
  by_cases h1 : clOk n y = false
  ·rw [if_pos h1] at h; simp at h
  ·rw [if_neg h1] at h
   by_cases h2 : y.front ∈ seen ∨ y.back ∈ seen ∨ y.front = y.back
   ·rw [if_pos h2] at h; simp at h
   ·rw [if_neg h2] at h
    rcases List.mem_cons.1 hx with rfl | hx
    ·simpa using h1
    ·exact schK_cl h x hx
theorem sch_cl {c r : Int} {l : List Cell} (h : (schS c r l).2 = 0) : ∀ x ∈ l, clOk l.length x = true := by
 obtain ⟨cn, rn, rfl, rfl, h1, h2, h3, h4, h5, h6⟩ := sch_fine h
 have e : (l.length : Int) = (cn : Int) * rn := by rw [h5]; push_cast; exact Int.mul_comm _ _
 unfold schS at h
 rw [if_neg (by simp [h6]), if_neg (by simp [e])] at h
 exact schK_cl h
end Go.Proofs.YtgiegokdcmkfeaaGreatDoor
/-
 Chapter 6: what is written of a scheme is read again.
-/
namespace Go.Proofs.YtgiegokdcmkfeaaGreatDoor
open Go Go.Vx Go.Lib
theorem itoa_natX {n : Int} (h : 0 ≤ n) : itoa n = decDigits n.toNat := by rw [itoa, if_neg (by omega)]
theorem n4R_itoa {n : Int} (h : 0 ≤ n ∧ n ≤ 9999) : n4R (itoa n) = (n, true) ∧ ∀ c ∈ itoa n, 48 ≤ c.toNat := by
 rw [itoa_natX h.1]
 have ha := dec_all n.toNat
 have hne := dec_ne n.toNat
 have hv := dec_val n.toNat
 have hl := dec_len 3 n.toNat (by omega)
 have hd : ∀ c ∈ decDigits n.toNat, 48 ≤ c.toNat ∧ c.toNat ≤ 57 := fun c hc => by
  have := List.all_eq_true.1 ha c hc
  simpa [dgB] using this
 have h0 : ¬ ((decDigits n.toNat).head? = some 48 ∧ 1 < (decDigits n.toNat).length) := fun ⟨e1, e2⟩ => by
  by_cases hz : n.toNat = 0
  ·rw [hz, decDigits, dif_pos (by omega)] at e2; simp at e2
  ·obtain ⟨c, r, e3, e4⟩ := dec_head n.toNat (by omega)
   rw [e3] at e1
   simp only [List.head?_cons, Option.some.injEq] at e1
   rw [e1] at e4; exact e4 rfl
 have h45 : (decDigits n.toNat).head? ≠ some 45 := fun e => by
  cases hq : decDigits n.toNat with
  | nil => rw [hq] at e; cases e
  | cons c r =>
   rw [hq] at e
   simp only [List.head?_cons, Option.some.injEq] at e
   have := hd c (by rw [hq]; simp)
   rw [e] at this
   exact absurd this.1 (by decide)
 refine ⟨?_, fun c hc => (hd c hc).1⟩
 unfold n4R numR
 rw [if_neg h45, if_neg (fun h => by
  rcases h with h | h | h
  ·exact hne h
  ·omega
  ·exact h0 h), if_pos ha, hv]
 simp only [Prod.mk.injEq, and_true]; omega
theorem cutC_join (c : UInt8) : ∀ (W : List (List UInt8)), W ≠ [] → (∀ w ∈ W, ¬ c ∈ w) → cutL c [] (Lib.join W [c]) = W
 | [], h, _ => absurd rfl h
 | [w], _, h => by rw [Lib.join_one, cut_miss _ _ (h w (by simp))]; rfl
 | w :: v :: r, _, h => by
  have ih := cutC_join c (v :: r) (by simp) (fun x hx => h x (List.mem_cons_of_mem _ hx))
  have hj : Lib.join (w :: v :: r) [c] = w ++ c :: Lib.join (v :: r) [c] := by
   rw [Lib.join_cons, Lib.join_cons]; simp [Lib.joinTail]
  rw [hj, cut_hit w [] _ (h w (by simp)), ih]; rfl
/-! both read alike -/
theorem n4_same (w : List UInt8) : (n4P w).2 = (n4R w).2 ∧ ((n4R w).2 = true → (n4P w).1 = (n4R w).1) := num_same w 4 (by omega)
theorem celK_same (x : List UInt8) : celK n4P x = celK n4R x := by
 unfold celK
 rcases cutL 47 [] x with _ | ⟨a, _ | ⟨b, _ | ⟨c, _ | ⟨d, _ | ⟨e, r⟩⟩⟩⟩⟩
 all_goals try rfl
 simp only
 obtain ⟨a1, a2⟩ := n4_same a; obtain ⟨b1, b2⟩ := n4_same b; obtain ⟨c1, c2⟩ := n4_same c; obtain ⟨d1, d2⟩ := n4_same d
 rw [a1, b1, c1, d1]
 split
 ·rename_i h
  rw [a2 h.1, b2 h.2.1, c2 h.2.2.1, d2 h.2.2.2]
 ·rfl
theorem hedK_same (x : List UInt8) : hedK n4P x = hedK n4R x := by
 unfold hedK
 rcases cutL 32 [] x with _ | ⟨a, _ | ⟨b, _ | ⟨c, r⟩⟩⟩
 all_goals try rfl
 simp only
 obtain ⟨a1, a2⟩ := n4_same a; obtain ⟨b1, b2⟩ := n4_same b
 rw [a1, b1]
 split
 ·rename_i h
  rw [a2 h.1, b2 h.2]
 ·rfl
theorem rowG_same : ∀ (ws : List (List UInt8)) (acc : List Cell), rowG n4P ws acc = rowG n4R ws acc
 | [], _ => rfl
 | x :: xs, acc => by rw [rowG, rowG, celK_same, rowG_same xs]
theorem schL_same (c r : Int) : ∀ (ps : List (List UInt8)) (i : Int) (cells : List Cell) (ws : List Int), schL n4P c r i cells ws ps = schL n4R c r i cells ws ps
 | [], _, _, _ => rfl
 | [l], _, _, _ => rfl
 | p :: q :: ps, i, cells, ws => by rw [schL, schL, rowG_same, schL_same c r (q :: ps)]
theorem parS_same (t : List UInt8) : parS n4P t = parS n4R t := by
 rw [parS, parS]
 split
 ·rfl
 ·rcases cutL 10 [] t with _ | ⟨p, _ | ⟨q, ps⟩⟩
  ·rfl
  ·rfl
  ·rw [schG, schG, hedK_same, schL_same]
/-! what is written is read -/
def okC (x : Cell) : Prop := (0 ≤ x.front ∧ x.front ≤ 9999) ∧ (0 ≤ x.fturn ∧ x.fturn ≤ 9999) ∧ (0 ≤ x.back ∧ x.back ≤ 9999) ∧ (0 ≤ x.bturn ∧ x.bturn ≤ 9999)
theorem not_in {w : List UInt8} {c : UInt8} (h : ∀ d ∈ w, 48 ≤ d.toNat) (hc : c.toNat < 48) : ¬ c ∈ w := fun hm => by have := h c hm; omega
theorem celT_ge {x : Cell} (h : okC x) : ∀ d ∈ celT x, 47 ≤ d.toNat := by
 obtain ⟨h1, h2, h3, h4⟩ := h
 have g1 := (n4R_itoa h1).2; have g2 := (n4R_itoa h2).2; have g3 := (n4R_itoa h3).2; have g4 := (n4R_itoa h4).2
 intro d hd
 rw [celT_eq] at hd
 simp only [List.mem_append, List.mem_cons] at hd
 rcases hd with hd | rfl | hd | rfl | hd | rfl | hd
 ·have := g1 d hd; omega
 ·decide
 ·have := g2 d hd; omega
 ·decide
 ·have := g3 d hd; omega
 ·decide
 ·have := g4 d hd; omega
theorem cel_back {x : Cell} (h : okC x) : celK n4R (celT x) = (x, true) := by
 obtain ⟨h1, h2, h3, h4⟩ := h
 have g1 := n4R_itoa h1; have g2 := n4R_itoa h2; have g3 := n4R_itoa h3; have g4 := n4R_itoa h4
 have hc : cutL 47 [] (celT x) = [itoa x.front, itoa x.fturn, itoa x.back, itoa x.bturn] := cutC_join 47 _ (by simp) fun w hw => by
  simp only [List.mem_cons, List.not_mem_nil, or_false] at hw
  rcases hw with rfl | rfl | rfl | rfl
  ·exact not_in g1.2 (by decide)
  ·exact not_in g2.2 (by decide)
  ·exact not_in g3.2 (by decide)
  ·exact not_in g4.2 (by decide)
 unfold celK
 rw [hc]
 simp only [g1.1, g2.1, g3.1, g4.1]
 simp
theorem row_back : ∀ (l acc : List Cell), (∀ x ∈ l, okC x) → rowG n4R (l.map celT) acc = (acc ++ l, true)
 | [], acc, _ => by simp [rowG]
 | x :: l, acc, h => by
  rw [List.map_cons, rowG, cel_back (h x (by simp)), if_pos rfl, row_back l _ fun y hy => h y (List.mem_cons_of_mem _ hy)]
  simp
def rowW (l : List Cell) : List UInt8 := Lib.join (l.map celT) [32]
theorem rowW_no {l : List Cell} (h : ∀ x ∈ l, okC x) : ¬ (10 : UInt8) ∈ rowW l := by
 have : ∀ W : List (List UInt8), (∀ w ∈ W, ∀ d ∈ w, 47 ≤ d.toNat) → ∀ d ∈ Lib.join W [32], 32 ≤ d.toNat := by
  intro W
  induction W with
  | nil => intro _ d hd; simp [Lib.join] at hd
  | cons w W ih =>
   intro h d hd
   cases W with
   | nil =>
    rw [Lib.join_one] at hd
    have := h w (by simp) d hd; omega
   | cons v r =>
    have hj : Lib.join (w :: v :: r) [32] = w ++ 32 :: Lib.join (v :: r) [32] := by
     rw [Lib.join_cons, Lib.join_cons]; simp [Lib.joinTail]
    rw [hj, List.mem_append, List.mem_cons] at hd
    rcases hd with hd | rfl | hd
    ·have := h w (by simp) d hd; omega
    ·decide
    ·exact ih (fun x hx => h x (List.mem_cons_of_mem _ hx)) d hd
 intro hm
 have := this (l.map celT) (fun w hw => by
  obtain ⟨x, hx, rfl⟩ := List.mem_map.1 hw
  exact celT_ge (h x hx)) 10 hm
 exact absurd this (by decide)
theorem rowW_cut {l : List Cell} (hl : l ≠ []) (h : ∀ x ∈ l, okC x) : cutL 32 [] (rowW l) = l.map celT :=
 cutC_join 32 _ (by simpa using hl) fun w hw hm => by
  obtain ⟨x, hx, rfl⟩ := List.mem_map.1 hw
  exact absurd (celT_ge (h x hx) 32 hm) (by decide)
def okR (row : List Cell) : Prop := row ≠ [] ∧ ∀ x ∈ row, okC x
theorem rows_cut : ∀ R : List (List Cell), (∀ row ∈ R, okR row) → cutL 10 [] ((R.map rowT).flatten) = R.map rowW ++ [[]]
 | [], _ => rfl
 | row :: R, h => by
  have h1 := h row (by simp)
  have e : ((row :: R).map rowT).flatten = rowW row ++ 10 :: (R.map rowT).flatten := by simp [rowT, rowW]
  rw [e, cut_hit (rowW row) [] _ (rowW_no h1.2), rows_cut R fun x hx => h x (List.mem_cons_of_mem _ hx)]
  simp
theorem schL_rows (c r : Int) : ∀ (R : List (List Cell)) (i : Int) (cells : List Cell) (ws : List Int), (∀ row ∈ R, okR row) → schL n4R c r i cells ws (R.map rowW ++ [[]]) = finS c r (cells ++ R.flatten) (ws ++ R.map fun row => (row.length : Int))
 | [], i, cells, ws, _ => by simp [schL]
 | row :: R, i, cells, ws, h => by
  have h1 := h row (by simp)
  have h2 := schL_rows c r R (i + 1) (cells ++ row) (ws ++ [(row.length : Int)]) fun x hx => h x (List.mem_cons_of_mem _ hx)
  obtain ⟨q, qs, hq⟩ : ∃ q qs, R.map rowW ++ [[]] = q :: qs := by
   cases R with
   | nil => exact ⟨_, _, rfl⟩
   | cons x R => exact ⟨_, _, rfl⟩
  have hr : rowG n4R (cutL 32 [] (rowW row)) [] = (row, true) := by
   rw [rowW_cut h1.1 h1.2, row_back row [] h1.2, List.nil_append]
  rw [hq] at h2
  rw [List.map_cons, List.cons_append, hq, schL, hr, if_pos rfl]
  simp only
  rw [h2]
  simp
def chs (l : List Cell) (n k : Nat) : List (List Cell) := (List.range k).map (ckP l n)
theorem chs_flat (l : List Cell) (n : Nat) : ∀ k, (chs l n k).flatten = l.take (k * n)
 | 0 => by simp [chs]
 | k + 1 => by
  have ih := chs_flat l n k
  have e : chs l n (k + 1) = chs l n k ++ [ckP l n k] := by simp [chs, List.range_succ]
  rw [e, List.flatten_append, ih, Nat.succ_mul, List.take_add]
  simp [ckP]
theorem rowsT_chs (l : List Cell) (n k : Nat) : rowsT l n k = ((chs l n k).map rowT).flatten := by simp [rowsT, chs]; rfl
theorem sch_back {cn rn : Nat} {l : List Cell} (hs : (schS cn rn l).2 = 0) : parS n4R (schT cn rn l) = (((cn : Int), (rn : Int), l), 0, 0) ∧ (schT cn rn l).length ≤ 60000 ∧ ∀ w ∈ cutL 10 [] (schT cn rn l), w.length ≤ 1000 := by
 obtain ⟨cn', rn', e1, e2, hc1, hc8, hr1, hr8, hlen, -⟩ := sch_fine hs
 obtain rfl : cn = cn' := by omega
 obtain rfl : rn = rn' := by omega
 have hrn : rn * cn ≤ 8 * 8 := Nat.mul_le_mul hr8 hc8
 have hcl := sch_cl hs
 have hok : ∀ x ∈ l, okC x := fun x hx => by
  have := clOk_iff.1 (hcl x hx)
  unfold okC; omega
 have hI : ∀ x ∈ l, CelI x := fun x hx => by
  have := clOk_iff.1 (hcl x hx)
  unfold CelI I64; omega
 have hR : ∀ row ∈ chs l cn rn, okR row ∧ row.length = cn := fun row hrow => by
  obtain ⟨j, hj, rfl⟩ := List.mem_map.1 hrow
  have hj : j < rn := by simpa using hj
  have h1 : (j + 1) * cn ≤ rn * cn := Nat.mul_le_mul_right cn hj
  have h2 : (j + 1) * cn = j * cn + cn := Nat.succ_mul j cn
  have h3 : (ckP l cn j).length = cn := by simp [ckP]; omega
  exact ⟨⟨fun e => by rw [e] at h3; simp at h3; omega, fun x hx => hok x (ckP_mem hx)⟩, h3⟩
 have hh : 10 ≤ 10 := Nat.le_refl _
 have g1 := n4R_itoa (n := (cn : Int)) ⟨by omega, by omega⟩
 have g2 := n4R_itoa (n := (rn : Int)) ⟨by omega, by omega⟩
 have hw10 : ¬ (10 : UInt8) ∈ itoa (cn : Int) ++ 32 :: itoa (rn : Int) := fun hm => by
  rw [List.mem_append, List.mem_cons] at hm
  rcases hm with hm | hm | hm
  ·exact not_in g1.2 (by decide) hm
  ·exact absurd hm (by decide)
  ·exact not_in g2.2 (by decide) hm
 have hT : schT cn rn l = (itoa (cn : Int) ++ 32 :: itoa (rn : Int)) ++ 10 :: ((chs l cn rn).map rowT).flatten := by
  rw [schT, hedT, rowsT_chs]; simp
 have hcut : cutL 10 [] (schT cn rn l) = (itoa (cn : Int) ++ 32 :: itoa (rn : Int)) :: ((chs l cn rn).map rowW ++ [[]]) := by
  rw [hT, cut_hit _ [] _ hw10, rows_cut _ fun row hrow => (hR row hrow).1]; simp
 have l1 := itoa_len (n := (cn : Int)) ⟨by omega, by omega⟩
 have l2 := itoa_len (n := (rn : Int)) ⟨by omega, by omega⟩
 have hlen2 : (schT cn rn l).length ≤ 60000 := by
  have h1 := rowsT_len (n := cn) hI rn
  have h2 : (89 * cn + 1) * rn ≤ (89 * 8 + 1) * 8 := Nat.mul_le_mul (by omega) (by omega)
  rw [schT, hedT]
  simp only [List.length_append, List.length_cons, List.length_nil]; omega
 have hchl : (chs l cn rn).length = rn := by simp [chs]
 have hfl : (chs l cn rn).flatten = l := by rw [chs_flat, ← hlen, List.take_length]
 have hhed : hedK n4R (itoa (cn : Int) ++ 32 :: itoa (rn : Int)) = (((cn : Int), (rn : Int)), true) := by
  unfold hedK
  rw [cut1_hit (not_in g1.2 (by decide)), cut1_miss (not_in g2.2 (by decide))]
  simp [g1.1, g2.1]
 refine ⟨?_, hlen2, fun w hw => ?_⟩
 ·rw [parS, if_neg (by omega), hcut]
  obtain ⟨q, qs, hq⟩ : ∃ q qs, (chs l cn rn).map rowW ++ [[]] = q :: qs := by
   cases (chs l cn rn) with
   | nil => exact ⟨_, _, rfl⟩
   | cons x R => exact ⟨_, _, rfl⟩
  rw [hq, schG, hhed, if_pos rfl]
  simp only
  rw [← hq, schL_rows _ _ _ _ _ _ fun row hrow => (hR row hrow).1, List.nil_append, List.nil_append, hfl, finS, if_neg ?_, if_pos hs]
  intro h
  rcases h with h | h
  ·rw [List.length_map, hchl] at h; exact h rfl
  ·rw [List.any_eq_true] at h
   obtain ⟨n, hn, h2⟩ := h
   obtain ⟨row, hrow, rfl⟩ := List.mem_map.1 hn
   rw [(hR row hrow).2] at h2
   simp at h2
 ·rw [hcut] at hw
  rcases List.mem_cons.1 hw with rfl | hw
  ·simp only [List.length_append, List.length_cons]; omega
  ·rcases List.mem_append.1 hw with hw | hw
   ·obtain ⟨row, hrow, rfl⟩ := List.mem_map.1 hw
    obtain ⟨⟨-, h2⟩, h3⟩ := hR row hrow
    have h4 := rowT_len (l := row) fun x hx => by
     have := h2 x hx
     unfold okC at this; unfold CelI I64; omega
    have h5 : (rowT row).length = (rowW row).length + 1 := by simp [rowT, rowW]
    omega
   ·simp at hw; subst hw; simp
theorem finS_len (c r : Int) (cells : List Cell) (ws : List Int) : (finS c r cells ws).1.2.2.length ≤ 64 := by
 rw [finS]
 split
 ·simp [noneR]
 ·split
  ·rename_i h
   obtain ⟨cn, rn, rfl, rfl, h1, h2, h3, h4, h5, -⟩ := sch_fine h
   have : rn * cn ≤ 8 * 8 := Nat.mul_le_mul h4 h2
   simp only; omega
  ·simp [noneR]
theorem schL_len (num : List UInt8 → Int × Bool) (c r : Int) : ∀ (ps : List (List UInt8)) (i : Int) (cells : List Cell) (ws : List Int), (schL num c r i cells ws ps).1.2.2.length ≤ 64
 | [], _, _, _ => by simp [schL, noneR]
 | [l], i, cells, ws => by
  rw [schL]
  split
  ·exact finS_len c r cells ws
  ·simp [noneR]
 | p :: q :: ps, i, cells, ws => by
  rw [schL]
  split
  ·exact schL_len num c r (q :: ps) _ _ _
  ·simp [noneR]
theorem parS_len (num : List UInt8 → Int × Bool) (t : List UInt8) : (parS num t).1.2.2.length ≤ 64 := by
 rw [parS]
 split
 ·simp [noneR]
 ·rcases cutL 10 [] t with _ | ⟨p, _ | ⟨q, ps⟩⟩
  ·simp [schG, noneR]
  ·simp [schG, noneR]
  ·rw [schG]
   split
   ·exact schL_len num _ _ (q :: ps) _ _ _
   ·simp [noneR]
end Go.Proofs.YtgiegokdcmkfeaaGreatDoor
/-
 Chapter 6, walks: a scheme written (the program, whole).
-/
namespace Go.Proofs.YtgiegokdcmkfeaaGreatDoor
open Go Go.Vx
set_option maxRecDepth 20000
def celL (l : List Cell) (k : Nat) : List (List UInt8) := (l.take k).map celT
theorem celL_succ {l : List Cell} {k : Nat} (h : k < l.length) : celL l (k + 1) = celL l k ++ [celT l[k]] := by
 rw [celL, List.take_succ_eq_append_getElem h, List.map_append]; rfl
set_option maxHeartbeats 16000000 in
theorem printS_s (c r : Int) (l : List Cell) (hI : ∀ x ∈ l, CelI x) : CtrK glob Tryz.prog 8 [.agg [(.v (.int .i64 c)), (.v (.int .i64 r)), .sl true 4 (l.map eC)]] (fun rr => rr = ⟨.tup [(.v (.string ((prtS c r l).1))), (.v (.int .i64 ((prtS c r l).2)))], []⟩) := by
 have encs := And.intro encs (And.intro sxFb (And.intro eT_def (And.intro (show ∀ l n, ckC l n = [.pt true [.sl true 4 (l.map eC)], .pt true [(.v (.int .i64 ((n : Int))))]] from fun _ _ => rfl) (show ∀ l n, rowsT l n 0 = [] from fun _ _ => rfl))))
 refine CtrK.of (rs := [.tmp 2, .tmp 3]) Tok true Tryz.func8 rfl rfl rfl rfl (by simp [ofDL]) (fun w0 kp hgl => ?_)
 simp only [↓sx0, sxE, encs, sevalprocAttr]
 refine CallI.fn (check_s true c r l) (by simp only [sx3, encs, sxR, sevalprocAttr] <;> (try simp) <;> (try rfl)) ?_
 simp only [↓sx0, sxE, encs, sevalprocAttr]
 refine BrW.dec (fun he => ?_) (fun he => ?_)
 ·rw [show prtS c r l = (⟨#[]⟩, (schS c r l).2) by rw [prtS, if_neg he]]
  simp only [↓sx0, sxE, encs, sevalprocAttr]
  refine EndW.fn ?_ ?_ <;> simp only [sx4, encs, kpLL_map, sxR, sevalprocAttr] <;> (try simp) <;> (try omega)
 ·have he : (schS c r l).2 = 0 := Decidable.not_not.1 he
  rw [show prtS c r l = (bs (schT c.toNat r.toNat l), 0) by rw [prtS, if_pos he]]
  obtain ⟨cn, rn, rfl, rfl, hc1, hc8, hr1, hr8, hlen, -⟩ := sch_fine he
  have hrn : rn * cn ≤ 8 * 8 := Nat.mul_le_mul hr8 hc8
  have z1 : I64 (cn : Int) := ⟨by omega, by omega⟩
  have z2 : I64 (rn : Int) := ⟨by omega, by omega⟩
  have l1 := itoa_len z1
  have l2 := itoa_len z2
  have cA := itoa_T cn z1
  have cB := itoa_T rn z2
  have s1 := bs_size (Lib.itoa cn)
  have s2 := bs_size (Lib.itoa rn)
  have s3 := sz1 32
  have s4 := sz1 10
  have hs : bs (Lib.itoa cn) ++ (⟨#[32]⟩ : ByteArray) ++ bs (Lib.itoa rn) ++ (⟨#[10]⟩ : ByteArray) = bs (hedT cn rn) := by
   rw [show (⟨#[32]⟩ : ByteArray) = bs [32] from rfl, b10, bs_add, bs_add, bs_add, hedT]; simp
  have hhl : (hedT cn rn).length ≤ 100 ∧ 0 < (hedT cn rn).length := by
   simp only [hedT, List.length_append, List.length_cons, List.length_nil]; omega
  have hhs := bs_size (hedT cn rn)
  have hit : ItCtrB Tryz.prog 72 29 [(.v (.int .i64 ((cn : Int)))), (.v (.int .i64 ((rn : Int)))), .sl true 4 (l.map eC)] (ckC l cn) (ckL l cn rn) := ItCtr.toB (chunkIt_s l cn rn (by omega) (by omega) (by omega) hlen) rfl
  simp only [↓sx0, sxE, encs, sevalprocAttr]
  refine DrawW.plan Tok mixed (.q 0 <| .q 1 <| .q 4 <| .q 5 <| .e 2 [5] <| .q 3 <| .e 6 [] <| .q 7 <| .q 8 <| .e 9 [] <| .done) (by kernel_rfl) (by kernel_rfl) ?_
  simp only [↓sx0, sxE, encs, sevalprocAttr]
  refine CallI.fnK (cA) glob_ok hgl rfl (by simp only [sx3, encs, sxR, sevalprocAttr] <;> (try simp) <;> (try rfl)) ?_
  simp only [↓sx0, sxE, encs, sevalprocAttr]
  repeat ((with_reducible refine Vc.go ?_ fun _ => ?_); (focus (first | omega | (simp only [InK]; omega) | (simp [ByteArray.size_append, s1, s2, s3, s4, InK]; done) | (simp [ByteArray.size_append, s1, s2, s3, s4, InK]; omega))); simp only [↓sx0, sxE, encs, sevalprocAttr])
  refine CallI.fnK (cB) glob_ok hgl rfl (by simp only [sx3, encs, sxR, sevalprocAttr] <;> (try simp) <;> (try rfl)) ?_
  simp only [↓sx0, sxE, encs, sevalprocAttr]
  repeat ((with_reducible refine Vc.go ?_ fun _ => ?_); (focus (first | omega | (simp only [InK]; omega) | (simp [ByteArray.size_append, s1, s2, s3, s4, InK]; done) | (simp [ByteArray.size_append, s1, s2, s3, s4, InK]; omega))); simp only [↓sx0, sxE, encs, sevalprocAttr])
  rw [hs]
  refine CallI.wstr0 wstr_s rfl (.inl rfl) (by omega) (by omega) ?_
  rw [bs_toList]
  simp only [↓sx0, sxE, encs, sevalprocAttr]
  refine CallI.fn (chunk_s l cn (by omega)) (by simp only [sx3, encs, sxR, sevalprocAttr] <;> (try simp) <;> (try rfl)) ?_
  simp only [↓sx0, sxE, encs, sevalprocAttr]
  refine RangeW.itB (k := 0) rfl Tok (fun _ => rfl) (fun hro => by first | rfl | exact (by rw [hro] at *; contradiction)) hit [(5, .box 1 0), (29, .clo 72 (ckC l cn))]
   [some ⟨29, [(.v (.int .i64 ((cn : Int)))), (.v (.int .i64 ((rn : Int)))), .sl true 4 (l.map eC)]⟩, some ⟨84, [.box 1 0, .row 0]⟩]
   (fun _ => [none, some ⟨84, [.box 1 0, .row 0]⟩])
   (fun ys => [.own 5 1 (byE (hedT cn rn ++ rowsT l cn ys.length))]) (fun _ => True) trivial (by simp only [sx2, encs, sxR, sevalprocAttr] <;> (try simp) <;> (try omega)) rfl rfl rfl rfl rfl (by simp [ckL, ckY]) ?_ (fun hJall => ?_)
  ·rintro pre d hpre - ρ σ μ ho' hy hs'
   obtain ⟨yd', ro, mks, fr, lp, sz⟩ := ho'
   obtain ⟨qq, hq⟩ := hpre
   have hk : pre.length < rn := by
    have := congrArg List.length hq
    simp [ckL] at this; omega
   have hd : d = ckY l cn pre.length := by
    have : (ckL l cn rn)[pre.length]? = some d := by rw [← hq]; simp
    simpa [ckL, List.getElem?_map, List.getElem?_range, hk, eq_comm] using this
   subst hd
   have hlp : (pre ++ [ckY l cn pre.length]).length = pre.length + 1 := by simp
   have hrs := rowsT_succ l cn pre.length
   have hrI : ∀ x ∈ ckP l cn pre.length, CelI x := fun x hx => hI x (ckP_mem hx)
   have hrl := ckP_len l cn pre.length
   have hrt := rowT_len hrI
   have hrr := rowsT_len (n := cn) hI pre.length
   have hrr2 : (89 * cn + 1) * pre.length ≤ (89 * 8 + 1) * 8 := Nat.mul_le_mul (by omega) (by omega)
   rw [hlp, hrs, ckY]
   generalize ckP l cn pre.length = row at *
   generalize rowsT l cn pre.length = txt at *
   have encs := And.intro encs (show celL row 0 = [] from rfl)
   have hcl : celL row row.length = row.map celT := by rw [celL, List.take_length]
   have hcll : (celL row row.length).length ≤ 8 := by rw [hcl, List.length_map]; omega
   have hjl : (Lib.join (celL row row.length) [32]).length ≤ 1000 := by
    have : (rowT row).length = (Lib.join (celL row row.length) [32]).length + 1 := by rw [rowT, hcl]; simp
    omega
   have hjs := bs_size (Lib.join (celL row row.length) [32])
   have hts := bs_size (rowT row)
   simp only [↓sx0, sxE, encs, sevalprocAttr]
   intro fr' hfr
   skip
   refine LoopW.comp [5, 7, 31, 32, 33] (by simp only [sx2, encs, sxR, sevalprocAttr] <;> (try simp) <;> (try omega)) ?_
   simp only [sx2, sxR, sevalprocAttr]
   refine LoopW.up Tok (fun j : Nat => [(7, .row 1), (33, (.v (.int .i64 ((j : Int)))))]) (fun j => []) (fun j => []) (fun j => [.own 9 1 ((celL row j).map eT)]) (fun j => j ≤ row.length) (fun j => row.length - j) (0) (by simp only [sx2, encs, sxR, sevalprocAttr] <;> (try simp [celL, encs]) <;> (try omega)) ?_ ?_
   ·omega
   rintro j hj
   simp only [↓sx0, sxE, encs, sevalprocAttr]
   refine BrW.dec (fun hlt => ?_) (fun hlt => ?_)
   ·have hjr : j < row.length := by omega
    have hsuc := celL_succ hjr
    have hcI := hrI _ (List.getElem_mem hjr)
    obtain ⟨i1, i2, i3, i4⟩ := hcI
    have k1 := itoa_T _ i1; have k2 := itoa_T _ i2; have k3 := itoa_T _ i3; have k4 := itoa_T _ i4
    have hcj : (celL row j).length ≤ 8 := by rw [celL, List.length_map, List.length_take]; omega
    have hcl2 := celT_len (hrI _ (List.getElem_mem hjr))
    have cJ := joinC_T false [Lib.itoa row[j].front, Lib.itoa row[j].fturn, Lib.itoa row[j].back, Lib.itoa row[j].bturn] 47 (by simp) (by have : (Lib.join [Lib.itoa row[j].front, Lib.itoa row[j].fturn, Lib.itoa row[j].back, Lib.itoa row[j].bturn] [47]).length ≤ 88 := hcl2; omega)
    have hce : celT row[j] = Lib.join [Lib.itoa row[j].front, Lib.itoa row[j].fturn, Lib.itoa row[j].back, Lib.itoa row[j].bturn] [47] := rfl
    rw [hce] at hsuc
    simp only [↓sx0, sxE, encs, sevalprocAttr]
    refine IxW.nat hjr ?_
    generalize row[j] = x at *
    simp only [↓sx0, sxE, encs, sevalprocAttr]
    refine DrawW.plan Tok mixed (.q 0 <| .q 1 <| .q 2 <| .q 4 <| .q 5 <| .q 7 <| .q 8 <| .q 10 <| .q 11 <| .e 3 [5, 8, 11] <| .e 6 [8, 11] <| .e 9 [11] <| .e 12 [] <| .e 13 [] <| .e 14 [] <| .e 15 [] <| .e 16 [] <| .q 17 <| .done) (by kernel_rfl) (by kernel_rfl) ?_
    simp only [↓sx0, sxE, encs, sevalprocAttr]
    refine CallI.fnKI (k1) glob_ok hgl rfl hfr (by simp only [sx3, encs, sxR, sevalprocAttr] <;> (try simp) <;> (try rfl)) ?_
    simp only [↓sx0, sxE, encs, sevalprocAttr]
    refine CallI.fnKI (k2) glob_ok hgl rfl hfr (by simp only [sx3, encs, sxR, sevalprocAttr] <;> (try simp) <;> (try rfl)) ?_
    simp only [↓sx0, sxE, encs, sevalprocAttr]
    refine CallI.fnKI (k3) glob_ok hgl rfl hfr (by simp only [sx3, encs, sxR, sevalprocAttr] <;> (try simp) <;> (try rfl)) ?_
    simp only [↓sx0, sxE, encs, sevalprocAttr]
    refine CallI.fnKI (k4) glob_ok hgl rfl hfr (by simp only [sx3, encs, sxR, sevalprocAttr] <;> (try simp) <;> (try rfl)) ?_
    simp only [↓sx0, sxE, encs, sevalprocAttr]
    refine CallI.fn (cJ) (by simp only [sx3, encs, sxR, sevalprocAttr] <;> (try simp) <;> (try rfl)) ?_
    simp only [↓sx0, sxE, encs, sevalprocAttr]
    repeat ((with_reducible refine Vc.go ?_ fun _ => ?_); (focus (first | omega | (simp only [InK]; omega) | (simp [InK]; done) | (simp [InK]; omega))); simp only [↓sx0, sxE, encs, sevalprocAttr])
    refine ⟨j + 1, StLe.auto (by simp only [sx2, encs, sxR, sevalprocAttr] <;> (try simp [hsuc, encs]) <;> (try omega)), ?_, ?_⟩
    ·omega
    ·omega
   ·simp only [↓sx0, sxE, encs, sevalprocAttr]
    have hke : j = row.length := by omega
    subst hke
    refine CallI.fn (joinC_T false (celL row row.length) 32 (by omega) (by omega)) (by simp only [sx3, encs, sxR, sevalprocAttr] <;> (try simp) <;> (try rfl)) ?_
    simp only [↓sx0, sxE, encs, sevalprocAttr]
    repeat ((with_reducible refine Vc.go ?_ fun _ => ?_); (focus (first | omega | (simp only [InK]; omega) | (simp [ByteArray.size_append, s4, hjs, InK]; done) | (simp [ByteArray.size_append, s4, hjs, InK]; omega))); simp only [↓sx0, sxE, encs, sevalprocAttr])
    rw [b10, bs_add, show Lib.join (celL row row.length) [32] ++ [10] = rowT row by rw [rowT, hcl]]
    refine CallI.wstr (l := hedT cn rn ++ txt) wstr_s rfl (.inr rfl) rfl (by rw [List.length_append]; omega) ?_
    rw [bs_toList, List.append_assoc]
    simp only [↓sx0, sxE, encs, sevalprocAttr]
    simp only [sx2, encs, sxR, sevalprocAttr] <;> (try simp) <;> (try omega)
  ·rw [show (ckL l cn rn).length = rn by simp [ckL]]
   simp only [↓sx0, sxE, encs, sevalprocAttr]
   refine CallI.bstr (l := hedT cn rn ++ rowsT l cn rn) bstr_s rfl rfl (fun e => ?_) ?_
   ·have := congrArg List.length e
    rw [List.length_append, List.length_nil] at this
    omega
   ·simp only [↓sx0, sxE, encs, sevalprocAttr]
    refine EndW.fn ?_ ?_ <;> simp only [sx4, encs, kpLL_map, sxR, sevalprocAttr] <;> (try simp [schT, bs]) <;> (try omega)
end Go.Proofs.YtgiegokdcmkfeaaGreatDoor
/-
 Chapter 6: the law of schemes' texts.
-/
namespace Go.Proofs.YtgiegokdcmkfeaaGreatDoor
open Go Go.Vx
set_option maxRecDepth 20000
set_option maxHeartbeats 16000000 in
theorem law_texts (c r : Int) (l : List Cell) (t : List UInt8) (hI : ∀ x ∈ l, CelI x) (hl : l.length ≤ maxLen) : CtrK glob Tryz.prog 4 [.agg [(.v (.int .i64 c)), (.v (.int .i64 r)), .sl true 4 (l.map eC)], (.v (.string (bs t)))] (fun rr => rr = ⟨(.v (.bool (true))), []⟩) := by
 have hmx : maxLen = 9223372036854775807 := rfl
 have hsz := bs_size t
 refine CtrK.of (rs := [.tmp 4]) Tok true Tryz.func4 rfl rfl rfl rfl (by simp [ofDL]) (fun w0 kp hgl => ?_)
 simp only [↓sx0, sxE, encs, sevalprocAttr]
 refine CallI.fn (awake_s) (by simp only [sx3, encs, sxR, sevalprocAttr] <;> (try simp) <;> (try rfl)) ?_
 simp only [↓sx0, sxE, encs, sevalprocAttr]
 refine CallI.fn (light_s true c r l) (by simp only [sx3, encs, sxR, sevalprocAttr] <;> (try simp) <;> (try rfl)) ?_
 simp only [↓sx0, sxE, encs, sevalprocAttr]
 by_cases hli : l.length ≤ 40
 ·refine BrW.yes (by omega) ?_
  simp only [↓sx0, sxE, encs, sevalprocAttr]
  by_cases ht : t.length ≤ 400 ∨ (60000 < t.length ∧ t.length ≤ 60005)
  ·have hpar : (t.length ≤ 60000 ∧ ∀ x ∈ cutL 10 [] t, x.length ≤ 1000) ∨ 60000 < t.length ∧ t.length ≤ 1000000 := by
    rcases ht with h | h
    ·exact .inl ⟨by omega, fun x hx => by have := cutL_mem 10 t [] x hx; simp at this; omega⟩
    ·exact .inr ⟨by omega, by omega⟩
   have cA := parseS_s t hpar
   have cB := parseSR_s t hpar
   rw [parS_same] at cA
   have hx := parS_len n4R t
   generalize parS n4R t = R at cA cB hx
   obtain ⟨⟨x, y, z⟩, n, e⟩ := R
   simp only at cA cB hx
   have cP := printS_s c r l hI
   have cS := checkSchemeR_s true c r l (by omega)
   by_cases he : (schS c r l).2 = 0
   ·obtain ⟨cn, rn, rfl, rfl, hc1, hc8, hr1, hr8, hlen, -⟩ := sch_fine he
    obtain ⟨g1, g2, g3⟩ := sch_back he
    have cX := parseS_s (schT cn rn l) (.inl ⟨g2, g3⟩)
    rw [parS_same, g1] at cX
    have cQ := printSR_s true cn rn l hlen hc1 hc8 hr8 hI
    rw [show prtS cn rn l = (bs (schT cn rn l), 0) by rw [prtS, if_pos he]; simp] at cP
    simp only at cP cX
    rw [he] at cS
    rcases ht with ht | ht
    all_goals (
     repeat ((first | (with_reducible refine BrW.yes (by omega) ?_) | (with_reducible refine BrW.no (by omega) ?_)); (try simp only [↓sx0, sxE, encs, sevalprocAttr]))
     refine CallI.fnK (cA) glob_ok hgl rfl (by simp only [sx3, encs, sxR, sevalprocAttr] <;> (try simp) <;> (try rfl)) ?_
     simp only [↓sx0, sxE, encs, sevalprocAttr]
     refine CallI.fn (cB) (by simp only [sx3, encs, sxR, sevalprocAttr] <;> (try simp) <;> (try rfl)) ?_
     simp only [↓sx0, sxE, encs, sevalprocAttr]
     refine BrW.no (by simp) ?_
     simp only [↓sx0, sxE, encs, sevalprocAttr]
     refine BrW.no (by simp) ?_
     simp only [↓sx0, sxE, encs, sevalprocAttr]
     refine CallI.fn (same_s true true x y x y z z (by omega)) (by simp only [sx3, encs, sxR, sevalprocAttr] <;> (try simp) <;> (try rfl)) ?_
     simp only [↓sx0, sxE, encs, sevalprocAttr]
     refine CallI.ctr (copy_s true cn rn l (by omega)) (by simp only [sx3, encs, sxR, sevalprocAttr] <;> (try simp) <;> (try rfl)) ?_
     rintro _ rfl
     simp only [↓sx0, sxE, encs, sevalprocAttr]
     refine CallI.frz [0] (by simp only [sx2, sxA, encs, sxR, sevalprocAttr] <;> rfl) (by simp only [sx2, sxA, encs, sxR, sevalprocAttr] <;> rfl) ?_
     refine CallI.fnK (cP) glob_ok hgl rfl (by simp only [sx3, encs, sxR, sevalprocAttr] <;> (try simp) <;> (try rfl)) ?_
     simp only [↓sx0, sxE, encs, sevalprocAttr]
     refine CallI.fn (cS) (by simp only [sx3, encs, sxR, sevalprocAttr] <;> (try simp) <;> (try rfl)) ?_
     simp only [↓sx0, sxE, encs, sevalprocAttr]
     refine BrW.no (by simp) ?_
     simp only [↓sx0, sxE, encs, sevalprocAttr]
     refine CallI.fnK (cX) glob_ok hgl rfl (by simp only [sx3, encs, sxR, sevalprocAttr] <;> (try simp) <;> (try rfl)) ?_
     simp only [↓sx0, sxE, encs, sevalprocAttr]
     refine CallI.fn (cQ) (by simp only [sx3, encs, sxR, sevalprocAttr] <;> (try simp) <;> (try rfl)) ?_
     simp only [↓sx0, sxE, encs, sevalprocAttr]
     refine CallI.fn (same_s true true cn rn cn rn l l (by omega)) (by simp only [sx3, encs, sxR, sevalprocAttr] <;> (try simp) <;> (try rfl)) ?_
     simp only [↓sx0, sxE, encs, sevalprocAttr]
     refine EndW.fn ?_ ?_ <;> simp only [sx4, encs, kpLL_map, sxR, sevalprocAttr] <;> (try simp) <;> (try omega))
   ·rw [show prtS c r l = (⟨#[]⟩, (schS c r l).2) by rw [prtS, if_neg he]] at cP
    generalize (schS c r l).2 = ee at *
    generalize (schS c r l).1 = e1 at *
    simp only at cP
    rcases ht with ht | ht
    all_goals (
     repeat ((first | (with_reducible refine BrW.yes (by omega) ?_) | (with_reducible refine BrW.no (by omega) ?_)); (try simp only [↓sx0, sxE, encs, sevalprocAttr]))
     refine CallI.fnK (cA) glob_ok hgl rfl (by simp only [sx3, encs, sxR, sevalprocAttr] <;> (try simp) <;> (try rfl)) ?_
     simp only [↓sx0, sxE, encs, sevalprocAttr]
     refine CallI.fn (cB) (by simp only [sx3, encs, sxR, sevalprocAttr] <;> (try simp) <;> (try rfl)) ?_
     simp only [↓sx0, sxE, encs, sevalprocAttr]
     refine BrW.no (by simp) ?_
     simp only [↓sx0, sxE, encs, sevalprocAttr]
     refine BrW.no (by simp) ?_
     simp only [↓sx0, sxE, encs, sevalprocAttr]
     refine CallI.fn (same_s true true x y x y z z (by omega)) (by simp only [sx3, encs, sxR, sevalprocAttr] <;> (try simp) <;> (try rfl)) ?_
     simp only [↓sx0, sxE, encs, sevalprocAttr]
     refine CallI.ctr (copy_s true c r l (by omega)) (by simp only [sx3, encs, sxR, sevalprocAttr] <;> (try simp) <;> (try rfl)) ?_
     rintro _ rfl
     simp only [↓sx0, sxE, encs, sevalprocAttr]
     refine CallI.frz [0] (by simp only [sx2, sxA, encs, sxR, sevalprocAttr] <;> rfl) (by simp only [sx2, sxA, encs, sxR, sevalprocAttr] <;> rfl) ?_
     refine CallI.fnK (cP) glob_ok hgl rfl (by simp only [sx3, encs, sxR, sevalprocAttr] <;> (try simp) <;> (try rfl)) ?_
     simp only [↓sx0, sxE, encs, sevalprocAttr]
     refine CallI.fn (cS) (by simp only [sx3, encs, sxR, sevalprocAttr] <;> (try simp) <;> (try rfl)) ?_
     simp only [↓sx0, sxE, encs, sevalprocAttr]
     refine BrW.yes he ?_
     simp only [↓sx0, sxE, encs, sevalprocAttr]
     refine EndW.fn ?_ ?_ <;> simp only [sx4, encs, kpLL_map, sxR, sevalprocAttr] <;> (try simp) <;> (try omega))
  ·by_cases h6 : t.length ≤ 60000
   ·repeat ((first | (with_reducible refine BrW.yes (by omega) ?_) | (with_reducible refine BrW.no (by omega) ?_)); (try simp only [↓sx0, sxE, encs, sevalprocAttr]))
    refine EndW.fn ?_ ?_ <;> simp only [sx4, encs, kpLL_map, sxR, sevalprocAttr] <;> (try simp) <;> (try omega)
   ·repeat ((first | (with_reducible refine BrW.yes (by omega) ?_) | (with_reducible refine BrW.no (by omega) ?_)); (try simp only [↓sx0, sxE, encs, sevalprocAttr]))
    refine EndW.fn ?_ ?_ <;> simp only [sx4, encs, kpLL_map, sxR, sevalprocAttr] <;> (try simp) <;> (try omega)
 ·refine BrW.no (by omega) ?_
  simp only [↓sx0, sxE, encs, sevalprocAttr]
  refine EndW.fn ?_ ?_ <;> simp only [sx4, encs, kpLL_map, sxR, sevalprocAttr] <;> (try simp) <;> (try omega)
end Go.Proofs.YtgiegokdcmkfeaaGreatDoor
