/-
 Chapter 8: numbers as texts, texts cut (the reference).
-/
import Derived.Test.YtmbemlmkfoblhaaGreatDoorVGA
import Derived.Test.YtmbemlmkfoblhaaGreatDoorVB8
import Derived.Test.YtmbemlmkfoblhaaGreatDoorVPure
import Derived.Shelf.Strings.FuncGrows
import Derived.Laws.RangeString
set_option linter.unusedSimpArgs false
set_option linter.unusedVariables false
namespace Go.Proofs.YtmbemlmkfoblhaaGreatDoor
open Go Go.Vx
set_option maxRecDepth 20000
def bs (l : List UInt8) : ByteArray := ⟨l.toArray⟩
theorem bs_add (a b : List UInt8) : bs a ++ bs b = bs (a ++ b) := by
 apply ByteArray.ext
 simp [bs, ByteArray.data_append]
theorem bs_size (a : List UInt8) : (bs a).size = a.length := by simp [bs, ByteArray.size]
theorem bs_data (s : ByteArray) : bs s.data.toList = s := by cases s; rfl
theorem bs_toList (a : List UInt8) : (bs a).data.toList = a := by simp [bs]
theorem bs_inj {a b : List UInt8} : bs a = bs b ↔ a = b := ⟨fun h => by rw [← bs_toList a, h, bs_toList], fun h => by rw [h]⟩
theorem CvR.go {e : TypeId} {els : List (List D)} {K : SV → St → Prop} {st : St} (h : 0 < els.length) (z : ByteArray) (hz : els = bytesD z) (hk : K (.v (.string z)) st) : CvR (some (.own e 1 els)) K st ⟨⟩ := ⟨rfl, h, z, hz, hk⟩
theorem dec_len : ∀ (k u : Nat), u < 10 ^ (k + 1) → (Lib.decDigits u).length ≤ k + 1
 | 0, u, h => by rw [Lib.decDigits, dif_pos (by omega)]; simp
 | k + 1, u, h => by
  rw [Lib.decDigits]
  split
  ·simp
  ·have h10 : 10 ^ (k + 1 + 1) = 10 ^ (k + 1) * 10 := Nat.pow_succ 10 (k + 1)
   have := dec_len k (u / 10) (by omega)
   simp only [List.length_append, List.length_singleton]
   omega
theorem bs_nil : bs [] = ⟨#[]⟩ := rfl
theorem sizeD_s (n : Int) (h : -1000 ≤ n ∧ n ≤ 1000) : Ctr Tryz.prog 75 [(.v (.int .i64 n))] (fun rr => rr = ⟨(.v (.int .i64 ((n.natAbs : Int)))), []⟩) := by
 rw [show (n.natAbs : Int) = max n (-n) by omega]
 refine Ctr.of (rs := [.tmp 2]) Tok true Tryz.func75 rfl rfl rfl rfl (by simp [ofDL]) (fun w0 kp => ?_)
 simp only [↓sx0, xE, sevalprocAttr]
 repeat ((with_reducible refine Vc.go ?_ fun _ => ?_); (focus (first | omega | (simp only [InK]; omega) | (simp [InK] <;> omega))); simp only [↓sx0, xE, sevalprocAttr])
 refine EndW.fn ?_ ?_ <;> simp only [sx4, xK, sevalprocAttr] <;> (try simp) <;> (try omega)
structure DecS where
 m : Int
 suf : List UInt8
set_option maxHeartbeats 4000000 in
theorem decimal_s (n : Int) (h0 : -9223372036854775808 ≤ n) (h1 : n ≤ 9223372036854775807) : Ctr Tryz.prog 44 [(.v (.int .i64 n))] (fun rr => rr = ⟨(.v (.string (bs (Lib.itoa n)))), []⟩) := by
 refine Ctr.of (rs := [.tmp 2]) Tok true Tryz.func44 rfl rfl rfl rfl (by simp [ofDL]) (fun w0 kp => ?_)
 simp only [↓sx0, xE, sevalprocAttr]
 refine BrW.dec (fun hz => ?_) (fun hz => ?_)
 ·subst hz
  simp only [↓sx0, xE, sevalprocAttr]
  have : bs (Lib.itoa 0) = ⟨#[48]⟩ := by rw [Lib.itoa, if_neg (by decide), Lib.decDigits, dif_pos (by decide)]; rfl
  refine EndW.fn ?_ ?_ <;> simp only [sx4, xK, sevalprocAttr] <;> (try simp [this]) <;> (try omega)
 ·have hl : (Lib.decDigits n.natAbs).length ≤ 20 := dec_len 19 _ (by omega)
  simp only [↓sx0, xE, sevalprocAttr]
  refine BrW.dec (fun hn => ?_) (fun hn => ?_)
  ·have hit : bs (Lib.itoa n) = ⟨#[45]⟩ ++ bs (Lib.decDigits n.natAbs) := by
    rw [show (⟨#[45]⟩ : ByteArray) = bs [45] from rfl, bs_add, Lib.itoa, if_pos hn]; rfl
   simp only [↓sx0, xE, sevalprocAttr]
   refine LoopW.comp [0, 3, 4] (by simp only [sx2, xR, sevalprocAttr] <;> (try simp) <;> (try omega)) ?_
   simp only [sx2, sxR, sevalprocAttr]
   refine LoopW.up Tok (fun s : DecS => [(0, (.v (.int .i64 s.m))), (3, (.v (.string (bs s.suf))))]) (fun s => []) (fun s => []) (fun s => []) (fun s => s.m.natAbs ≤ n.natAbs ∧ Lib.decDigits n.natAbs = (if s.m = 0 then [] else Lib.decDigits s.m.natAbs) ++ s.suf) (fun s => s.m.natAbs) (⟨n, []⟩) (by simp only [sx2, xR, sevalprocAttr] <;> (try simp [bs_nil, encs]) <;> (try omega)) ?_ ?_
   ·exact ⟨Nat.le_refl _, by rw [if_neg hz]; simp⟩
   rintro ⟨m, suf⟩ ⟨hm, hE⟩
   simp only at hm hE
   have hsl : suf.length ≤ 20 := by
    have := congrArg List.length hE
    rw [List.length_append] at this
    omega
   simp only [↓sx0, xE, sevalprocAttr]
   refine BrW.dec (fun hm0 => ?_) (fun hm0 => ?_)
   ·simp only [↓sx0, xE, sevalprocAttr]
    repeat ((with_reducible refine Vc.go ?_ fun _ => ?_); (focus (first | omega | (simp only [InK]; omega) | (simp [InK] <;> omega))); simp only [↓sx0, xE, sevalprocAttr])
    have e1 : (m.tmod 10).natAbs = m.natAbs % 10 := by rw [Int.natAbs_tmod]; rfl
    have e2 : (m.tdiv 10).natAbs = m.natAbs / 10 := by rw [Int.natAbs_tdiv]; rfl
    refine CallI.fn (sizeD_s (m.tmod 10) (by omega)) (by simp only [sx3, xR, sevalprocAttr] <;> (try simp) <;> (try rfl)) ?_
    simp only [↓sx0, xE, sevalprocAttr]
    rw [e1]
    repeat ((with_reducible refine Vc.go ?_ fun _ => ?_); (focus (first | omega | (simp only [InK]; omega) | (simp [InK] <;> omega))); simp only [↓sx0, xE, sevalprocAttr])
    refine CvR.go (by simp) (bs [UInt8.ofNat (48 + m.natAbs % 10)]) ?_ ?_
    ·simp only [bytesD, bs_toList, List.map_cons, List.map_nil, dig_nat (show m.natAbs % 10 < 10 by omega)]
     simp
    ·simp only [↓sx0, xE, sevalprocAttr]
     have hs1 : (bs [UInt8.ofNat (48 + m.natAbs % 10)]).size = 1 := bs_size _
     have hs2 : (bs suf).size = suf.length := bs_size _
     repeat ((with_reducible refine Vc.go ?_ fun _ => ?_); (focus (first | omega | (simp only [InK]; omega) | (simp [InK] <;> omega))); simp only [↓sx0, xE, sevalprocAttr])
     have hadd : bs [UInt8.ofNat (48 + m.natAbs % 10)] ++ bs suf = bs (UInt8.ofNat (48 + m.natAbs % 10) :: suf) := bs_add _ _
     rw [hadd]
     refine ⟨⟨m.tdiv 10, UInt8.ofNat (48 + m.natAbs % 10) :: suf⟩, StLe.auto (by simp only [sx2, xR, sevalprocAttr] <;> (try simp) <;> (try omega)), ?_, ?_⟩
     ·refine ⟨by simp only; omega, ?_⟩
      simp only
      rw [if_neg hm0] at hE
      by_cases hb : m.natAbs < 10
      ·have : m.tdiv 10 = 0 := by omega
       rw [if_pos this, hE, Lib.decDigits, dif_pos hb, show m.natAbs % 10 = m.natAbs by omega]; rfl
      ·have : ¬ m.tdiv 10 = 0 := by omega
       rw [if_neg this, hE, e2]
       conv => lhs; rw [Lib.decDigits, dif_neg hb]
       simp
     ·simp only; omega
   ·have hm0 := Decidable.not_not.1 hm0
    rw [if_pos hm0, List.nil_append] at hE
    rw [hE] at hit hl
    have hs2 : (bs suf).size = suf.length := bs_size _
    have hs3 : (⟨#[45]⟩ : ByteArray).size = 1 := rfl
    have hs4 : (⟨#[]⟩ : ByteArray).size = 0 := rfl
    simp only [↓sx0, xE, sevalprocAttr]
    repeat ((with_reducible refine Vc.go ?_ fun _ => ?_); (focus (first | omega | (simp only [InK]; omega) | (simp [InK] <;> omega))); simp only [↓sx0, xE, sevalprocAttr])
    refine EndW.fn ?_ ?_ <;> simp only [sx4, xK, sevalprocAttr] <;> (try simp [hit]) <;> (try omega)
  ·have hit : bs (Lib.itoa n) = ⟨#[]⟩ ++ bs (Lib.decDigits n.natAbs) := by
    rw [show (⟨#[]⟩ : ByteArray) = bs [] from rfl, bs_add, Lib.itoa, if_neg hn, show n.toNat = n.natAbs by omega]; rfl
   simp only [↓sx0, xE, sevalprocAttr]
   refine LoopW.comp [0, 3, 4] (by simp only [sx2, xR, sevalprocAttr] <;> (try simp) <;> (try omega)) ?_
   simp only [sx2, sxR, sevalprocAttr]
   refine LoopW.up Tok (fun s : DecS => [(0, (.v (.int .i64 s.m))), (3, (.v (.string (bs s.suf))))]) (fun s => []) (fun s => []) (fun s => []) (fun s => s.m.natAbs ≤ n.natAbs ∧ Lib.decDigits n.natAbs = (if s.m = 0 then [] else Lib.decDigits s.m.natAbs) ++ s.suf) (fun s => s.m.natAbs) (⟨n, []⟩) (by simp only [sx2, xR, sevalprocAttr] <;> (try simp [bs_nil, encs]) <;> (try omega)) ?_ ?_
   ·exact ⟨Nat.le_refl _, by rw [if_neg hz]; simp⟩
   rintro ⟨m, suf⟩ ⟨hm, hE⟩
   simp only at hm hE
   have hsl : suf.length ≤ 20 := by
    have := congrArg List.length hE
    rw [List.length_append] at this
    omega
   simp only [↓sx0, xE, sevalprocAttr]
   refine BrW.dec (fun hm0 => ?_) (fun hm0 => ?_)
   ·simp only [↓sx0, xE, sevalprocAttr]
    repeat ((with_reducible refine Vc.go ?_ fun _ => ?_); (focus (first | omega | (simp only [InK]; omega) | (simp [InK] <;> omega))); simp only [↓sx0, xE, sevalprocAttr])
    have e1 : (m.tmod 10).natAbs = m.natAbs % 10 := by rw [Int.natAbs_tmod]; rfl
    have e2 : (m.tdiv 10).natAbs = m.natAbs / 10 := by rw [Int.natAbs_tdiv]; rfl
    refine CallI.fn (sizeD_s (m.tmod 10) (by omega)) (by simp only [sx3, xR, sevalprocAttr] <;> (try simp) <;> (try rfl)) ?_
    simp only [↓sx0, xE, sevalprocAttr]
    rw [e1]
    repeat ((with_reducible refine Vc.go ?_ fun _ => ?_); (focus (first | omega | (simp only [InK]; omega) | (simp [InK] <;> omega))); simp only [↓sx0, xE, sevalprocAttr])
    refine CvR.go (by simp) (bs [UInt8.ofNat (48 + m.natAbs % 10)]) ?_ ?_
    ·simp only [bytesD, bs_toList, List.map_cons, List.map_nil, dig_nat (show m.natAbs % 10 < 10 by omega)]
     simp
    ·simp only [↓sx0, xE, sevalprocAttr]
     have hs1 : (bs [UInt8.ofNat (48 + m.natAbs % 10)]).size = 1 := bs_size _
     have hs2 : (bs suf).size = suf.length := bs_size _
     repeat ((with_reducible refine Vc.go ?_ fun _ => ?_); (focus (first | omega | (simp only [InK]; omega) | (simp [InK] <;> omega))); simp only [↓sx0, xE, sevalprocAttr])
     have hadd : bs [UInt8.ofNat (48 + m.natAbs % 10)] ++ bs suf = bs (UInt8.ofNat (48 + m.natAbs % 10) :: suf) := bs_add _ _
     rw [hadd]
     refine ⟨⟨m.tdiv 10, UInt8.ofNat (48 + m.natAbs % 10) :: suf⟩, StLe.auto (by simp only [sx2, xR, sevalprocAttr] <;> (try simp) <;> (try omega)), ?_, ?_⟩
     ·refine ⟨by simp only; omega, ?_⟩
      simp only
      rw [if_neg hm0] at hE
      by_cases hb : m.natAbs < 10
      ·have : m.tdiv 10 = 0 := by omega
       rw [if_pos this, hE, Lib.decDigits, dif_pos hb, show m.natAbs % 10 = m.natAbs by omega]; rfl
      ·have : ¬ m.tdiv 10 = 0 := by omega
       rw [if_neg this, hE, e2]
       conv => lhs; rw [Lib.decDigits, dif_neg hb]
       simp
     ·simp only; omega
   ·have hm0 := Decidable.not_not.1 hm0
    rw [if_pos hm0, List.nil_append] at hE
    rw [hE] at hit hl
    have hs2 : (bs suf).size = suf.length := bs_size _
    have hs3 : (⟨#[45]⟩ : ByteArray).size = 1 := rfl
    have hs4 : (⟨#[]⟩ : ByteArray).size = 0 := rfl
    simp only [↓sx0, xE, sevalprocAttr]
    repeat ((with_reducible refine Vc.go ?_ fun _ => ?_); (focus (first | omega | (simp only [InK]; omega) | (simp [InK] <;> omega))); simp only [↓sx0, xE, sevalprocAttr])
    refine EndW.fn ?_ ?_ <;> simp only [sx4, xK, sevalprocAttr] <;> (try simp [hit]) <;> (try omega)
end Go.Proofs.YtmbemlmkfoblhaaGreatDoor
/-
 Chapter 8: numbers of texts, texts cut (the reference).
-/
namespace Go.Proofs.YtmbemlmkfoblhaaGreatDoor
open Go Go.Vx
set_option maxRecDepth 20000
theorem sIx_at {l : List UInt8} {j : Nat} {k : SV → Prop} (h : j < l.length) (hk : k (.v (.int .u8 ((l[j].toNat : Nat) : Int)))) : StrIx (bs l) (j : Int) k ⟨⟩ := StrIx.nat (s := bs l) (j := j) (by rw [bs_size]; exact h) hk
theorem sIx_0 {c : UInt8} {r : List UInt8} {k : SV → Prop} (hk : k (.v (.int .u8 ((c.toNat : Nat) : Int)))) : StrIx (bs (c :: r)) 0 k ⟨⟩ := sIx_at (l := c :: r) (j := 0) (by simp) hk
theorem sIx_x {l : List UInt8} {i : Int} {k : SV → Prop} (j : Nat) (x : UInt8) (hj : i = j) (h : l[j]? = some x) (hk : k (.v (.int .u8 ((x.toNat : Nat) : Int)))) : StrIx (bs l) i k ⟨⟩ := by
 obtain ⟨h1, h2⟩ := List.getElem?_eq_some_iff.1 h
 subst hj
 refine sIx_at h1 ?_
 rw [h2]; exact hk
theorem sIx_1 {c d : UInt8} {r : List UInt8} {k : SV → Prop} (hk : k (.v (.int .u8 ((d.toNat : Nat) : Int)))) : StrIx (bs (c :: d :: r)) 1 k ⟨⟩ := sIx_at (l := c :: d :: r) (j := 1) (by simp) hk
theorem u8_eq {a b : UInt8} : a = b ↔ a.toNat = b.toNat := UInt8.toNat_inj.symm
theorem valD_lt : ∀ (l : List UInt8) (acc : Nat), l.all dgB = true → valD acc l < (acc + 1) * 10 ^ l.length
 | [], acc, _ => by simp [valD]
 | c :: r, acc, h => by
  rw [List.all_cons, Bool.and_eq_true] at h
  have hc : 48 ≤ c.toNat ∧ c.toNat ≤ 57 := by simpa [dgB] using h.1
  have ih := valD_lt r (acc * 10 + (c.toNat - 48)) h.2
  rw [valD_cons, List.length_cons, Nat.pow_succ]
  refine Nat.lt_of_lt_of_le ih ?_
  rw [Nat.mul_comm (10 ^ r.length) 10, ← Nat.mul_assoc]
  exact Nat.mul_le_mul_right _ (by omega)
theorem valD_17 {a : List UInt8} (h : a.all dgB = true) (hl : a.length ≤ 17) : valD 0 a < 10 ^ 17 := by
 have := valD_lt a 0 h
 rw [Nat.zero_add, Nat.one_mul] at this
 exact Nat.lt_of_lt_of_le this (Nat.pow_le_pow_right (by decide) hl)
theorem valD_bd {a : List UInt8} (h : a.all dgB = true) (hl : a.length ≤ 18) : valD 0 a < 10 ^ 18 := (parse_of a 0 0 h (by decide) (by omega)).2
structure NS where
 a : List UInt8
 b : List UInt8
set_option maxHeartbeats 4000000 in
theorem number_R (l : List UInt8) (dg : Nat) (hd : dg ≤ 18) (hll : l.length ≤ 1000000) : Ctr Tryz.prog 35 [(.v (.string (bs l))), (.v (.int .i64 ((dg : Int))))] (fun rr => rr = ⟨.tup [(.v (.int .i64 ((numR l dg).1))), (.v (.bool ((numR l dg).2)))], []⟩) := by
 rcases l with _ | ⟨c, r⟩
 ·have hv : numR [] dg = (0, false) := by simp [numR]
  rw [hv]
  refine Ctr.of (rs := [.tmp 4, .tmp 5]) Tok true Tryz.func35 rfl rfl rfl rfl (by simp [ofDL]) (fun w0 kp => ?_)
  simp only [↓sx0, xE, sevalprocAttr]
  rw [bs_size]
  refine BrW.no (by simp) ?_
  simp only [↓sx0, xE, sevalprocAttr]
  rw [bs_size]
  refine BrW.yes (by simp) ?_
  simp only [↓sx0, xE, sevalprocAttr]
  refine EndW.fn ?_ ?_ <;> simp only [sx4, xK, sevalprocAttr] <;> (try simp) <;> (try omega)
 ·refine Ctr.of (rs := [.tmp 4, .tmp 5]) Tok true Tryz.func35 rfl rfl rfl rfl (by simp [ofDL]) (fun w0 kp => ?_)
  simp only [↓sx0, xE, sevalprocAttr]
  rw [bs_size]
  refine BrW.yes (by simp) ?_
  simp only [↓sx0, xE, sevalprocAttr]
  refine sIx_0 ?_
  simp only [↓sx0, xE, sevalprocAttr]
  refine BrW.dec (fun h45 => ?_) (fun h45 => ?_)
  ·have hc : c = 45 := u8_eq.2 (by rw [show (45 : UInt8).toNat = 45 from rfl]; omega)
   subst hc
   have hsz1 : ((45 : UInt8) :: r).length = r.length + 1 := rfl
   simp only [↓sx0, xE, sevalprocAttr]
   rw [bs_size, hsz1]
   rcases r with _ | ⟨d, r⟩
   ·refine BrW.yes (by simp) ?_
    simp only [↓sx0, xE, sevalprocAttr]
    have hv : numR [45] dg = (0, false) := by simp [numR, numM]
    refine EndW.fn ?_ ?_ <;> simp only [sx4, xK, sevalprocAttr] <;> (try simp [hv]) <;> (try omega)
   ·have hsz2 : ((45 : UInt8) :: d :: r).length = r.length + 2 := rfl
    refine BrW.no (by simp only [List.length_cons]; omega) ?_
    simp only [↓sx0, xE, sevalprocAttr]
    rw [bs_size, hsz2]
    repeat ((with_reducible refine Vc.go ?_ fun _ => ?_); (focus (first | omega | (simp only [InK]; omega) | (simp [InK] <;> omega))); simp only [↓sx0, xE, sevalprocAttr])
    refine BrW.dec (fun hbig => ?_) (fun hbig => ?_)
    ·simp only [↓sx0, xE, sevalprocAttr]
     have hv : numR (45 :: d :: r) dg = (0, false) := by
      rw [numR, if_pos (show ((45 : UInt8) :: d :: r).head? = some 45 from rfl), List.tail_cons, numM, if_pos (.inr (.inl (by simp only [List.length_cons]; omega)))]
     refine EndW.fn ?_ ?_ <;> simp only [sx4, xK, sevalprocAttr] <;> (try simp [hv]) <;> (try omega)
    ·simp only [↓sx0, xE, sevalprocAttr]
     refine sIx_1 ?_
     simp only [↓sx0, xE, sevalprocAttr]
     refine BrW.dec (fun h48 => ?_) (fun h48 => ?_)
     ·simp only [↓sx0, xE, sevalprocAttr]
      rw [bs_size, hsz2]
      refine BrW.yes (by omega) ?_
      simp only [↓sx0, xE, sevalprocAttr]
      have hd48 : d = 48 := u8_eq.2 (by rw [show (48 : UInt8).toNat = 48 from rfl]; omega)
      have hv : numR (45 :: d :: r) dg = (0, false) := by
       rw [numR, if_pos (show ((45 : UInt8) :: d :: r).head? = some 45 from rfl), List.tail_cons, numM, if_pos (.inr (.inr (by rw [hd48]; rfl)))]
      refine EndW.fn ?_ ?_ <;> simp only [sx4, xK, sevalprocAttr] <;> (try simp [hv]) <;> (try omega)
     ·have hd48 : ¬ d = 48 := fun e => h48 (by rw [e]; rfl)
      simp only [↓sx0, xE, sevalprocAttr]
      have bad : (d :: r).all dgB = false → numR (45 :: d :: r) dg = (0, false) := fun h => by
       rw [numR, if_pos (show ((45 : UInt8) :: d :: r).head? = some 45 from rfl), List.tail_cons, numM, if_neg (by simp only [List.length_cons, List.head?_cons, Option.some.injEq]; rintro (h | h | h) <;> first | omega | exact hd48 h)]
       rw [if_neg (by rw [h]; simp)]
      have good : (d :: r).all dgB = true → numR (45 :: d :: r) dg = (-(valD 0 (d :: r) : Int), true) := fun h => by
       rw [numR, if_pos (show ((45 : UInt8) :: d :: r).head? = some 45 from rfl), List.tail_cons, numM, if_neg (by simp only [List.length_cons, List.head?_cons, Option.some.injEq]; rintro (h | h | h) <;> first | omega | exact hd48 h)]
       rw [if_pos h]
      refine LoopW.comp [0, 6, 7, 8] (by simp only [sx2, xR, sevalprocAttr] <;> (try simp) <;> (try omega)) ?_
      simp only [sx2, sxR, sevalprocAttr]
      refine LoopW.up Tok (fun s : NS => [(8, (.v (.int .i64 (1 + s.a.length)))), (7, (.v (.int .i64 ((valD 0 s.a : Int)))))]) (fun s => []) (fun s => []) (fun s => []) (fun s => d :: r = s.a ++ s.b ∧ s.a.all dgB = true) (fun s => s.b.length) (⟨[], d :: r⟩) (by simp only [sx2, xR, sevalprocAttr] <;> (try simp [valD, List.foldl_nil, encs]) <;> (try omega)) ?_ ?_
      ·exact ⟨rfl, rfl⟩
      rintro ⟨a, b⟩ ⟨hE, ha⟩
      simp only at hE ha
      have hlen : (d :: r).length = a.length + b.length := by rw [hE, List.length_append]
      have hrl : (d :: r).length = r.length + 1 := rfl
      have ha18 : a.length ≤ 18 := by omega
      have hbd := valD_bd ha ha18
      simp only [↓sx0, xE, sevalprocAttr]
      rw [bs_size, hsz2]
      rcases b with _ | ⟨x, b⟩
      ·rw [List.append_nil] at hE
       simp only [List.length_nil] at hlen
       refine BrW.no (by omega) ?_
       simp only [↓sx0, xE, sevalprocAttr]
       have hv : numR (45 :: d :: r) dg = (-(valD 0 a : Int), true) := by rw [good (by rw [hE]; exact ha), hE]
       repeat ((with_reducible refine Vc.go ?_ fun _ => ?_); (focus (first | omega | (simp only [InK]; omega) | (simp [InK] <;> omega))); simp only [↓sx0, xE, sevalprocAttr])
       refine EndW.fn ?_ ?_ <;> simp only [sx4, xK, sevalprocAttr] <;> (try simp [hv]) <;> (try omega)
      ·simp only [List.length_cons] at hlen
       refine BrW.yes (by omega) ?_
       simp only [↓sx0, xE, sevalprocAttr]
       have hb17 := valD_17 ha (by omega)
       have hx : (45 :: d :: r)[a.length + 1]? = some x := by
        rw [hE]; simp
       refine sIx_x (a.length + 1) x (by omega) hx ?_
       simp only [↓sx0, xE, sevalprocAttr]
       have badx : dgB x = false → numR (45 :: d :: r) dg = (0, false) := fun h => bad (by rw [hE, List.all_append, List.all_cons, h]; simp)
       refine BrW.dec (fun hl0 => ?_) (fun hl0 => ?_)
       ·simp only [↓sx0, xE, sevalprocAttr]
        have hv := badx (by simp only [dgB, decide_eq_false_iff_not]; omega)
        refine EndW.fn ?_ ?_ <;> simp only [sx4, xK, sevalprocAttr] <;> (try simp [hv]) <;> (try omega)
       ·simp only [↓sx0, xE, sevalprocAttr]
        refine sIx_x (a.length + 1) x (by omega) hx ?_
        simp only [↓sx0, xE, sevalprocAttr]
        refine BrW.dec (fun hl1 => ?_) (fun hl1 => ?_)
        ·simp only [↓sx0, xE, sevalprocAttr]
         have hv := badx (by simp only [dgB, decide_eq_false_iff_not]; omega)
         refine EndW.fn ?_ ?_ <;> simp only [sx4, xK, sevalprocAttr] <;> (try simp [hv]) <;> (try omega)
        ·simp only [↓sx0, xE, sevalprocAttr]
         repeat ((with_reducible refine Vc.go ?_ fun _ => ?_); (focus (first | omega | (simp only [InK]; omega) | (simp [InK] <;> omega))); simp only [↓sx0, xE, sevalprocAttr])
         refine sIx_x (a.length + 1) x (by omega) hx ?_
         simp only [↓sx0, xE, sevalprocAttr]
         repeat ((with_reducible refine Vc.go ?_ fun _ => ?_); (focus (first | omega | (simp only [InK]; omega) | (simp [InK] <;> omega))); simp only [↓sx0, xE, sevalprocAttr])
         have hvs : valD 0 (a ++ [x]) = valD 0 a * 10 + (x.toNat - 48) := by rw [valD_append]; rfl
         refine ⟨⟨a ++ [x], b⟩, StLe.auto (by simp only [sx2, xR, sevalprocAttr] <;> (try simp [hvs, encs]) <;> (try omega)), ?_, ?_⟩
         ·refine ⟨by simp only [hE, List.append_assoc, List.singleton_append], ?_⟩
          simp only [List.all_append, List.all_cons, List.all_nil, ha, dgB, Bool.true_and, Bool.and_true, decide_eq_true_eq]
          omega
         ·simp
  ·have hc : ¬ c = 45 := fun e => h45 (by rw [e]; rfl)
   have hsz2 : (c :: r).length = r.length + 1 := rfl
   simp only [↓sx0, xE, sevalprocAttr]
   rw [bs_size, hsz2]
   refine BrW.no (by omega) ?_
   simp only [↓sx0, xE, sevalprocAttr]
   rw [bs_size, hsz2]
   repeat ((with_reducible refine Vc.go ?_ fun _ => ?_); (focus (first | omega | (simp only [InK]; omega) | (simp [InK] <;> omega))); simp only [↓sx0, xE, sevalprocAttr])
   refine BrW.dec (fun hbig => ?_) (fun hbig => ?_)
   ·simp only [↓sx0, xE, sevalprocAttr]
    have hv : numR (c :: r) dg = (0, false) := by
     rw [numR, if_neg (by simp [hc]), if_pos (.inr (.inl (by simp only [List.length_cons]; omega)))]
    refine EndW.fn ?_ ?_ <;> simp only [sx4, xK, sevalprocAttr] <;> (try simp [hv]) <;> (try omega)
   ·simp only [↓sx0, xE, sevalprocAttr]
    refine sIx_0 ?_
    simp only [↓sx0, xE, sevalprocAttr]
    have key : ¬ (c = 48 ∧ 1 < (c :: r).length) → ¬ (c :: r = [] ∨ dg < (c :: r).length ∨ ((c :: r).head? = some 48 ∧ 1 < (c :: r).length)) := fun h => by
     rintro (h1 | h1 | h1)
     ·cases h1
     ·simp only [List.length_cons] at h1; omega
     ·exact h ⟨by simpa using h1.1, h1.2⟩
    refine BrW.dec (fun h48 => ?_) (fun h48 => ?_)
    ·simp only [↓sx0, xE, sevalprocAttr]
     rw [bs_size, hsz2]
     have hd48 : c = 48 := u8_eq.2 (by rw [show (48 : UInt8).toNat = 48 from rfl]; omega)
     refine BrW.dec (fun hone => ?_) (fun hone => ?_)
     ·simp only [↓sx0, xE, sevalprocAttr]
      have hv : numR (c :: r) dg = (0, false) := by
       rw [numR, if_neg (by simp [hc]), if_pos (.inr (.inr ⟨by rw [hd48]; rfl, by simp only [List.length_cons]; omega⟩))]
      refine EndW.fn ?_ ?_ <;> simp only [sx4, xK, sevalprocAttr] <;> (try simp [hv]) <;> (try omega)
     ·have hno := key (fun h => hone (by have := h.2; simp only [List.length_cons] at this; omega))
      simp only [↓sx0, xE, sevalprocAttr]
      have bad : (c :: r).all dgB = false → numR (c :: r) dg = (0, false) := fun h => by
       rw [numR, if_neg (by simp [hc]), if_neg hno]
       rw [if_neg (by rw [h]; simp)]
      have good : (c :: r).all dgB = true → numR (c :: r) dg = ((valD 0 (c :: r) : Int), true) := fun h => by
       rw [numR, if_neg (by simp [hc]), if_neg hno]
       rw [if_pos h]
      refine LoopW.comp [0, 6, 7, 8] (by simp only [sx2, xR, sevalprocAttr] <;> (try simp) <;> (try omega)) ?_
      simp only [sx2, sxR, sevalprocAttr]
      refine LoopW.up Tok (fun s : NS => [(8, (.v (.int .i64 ( s.a.length)))), (7, (.v (.int .i64 ((valD 0 s.a : Int)))))]) (fun s => []) (fun s => []) (fun s => []) (fun s => c :: r = s.a ++ s.b ∧ s.a.all dgB = true) (fun s => s.b.length) (⟨[], c :: r⟩) (by simp only [sx2, xR, sevalprocAttr] <;> (try simp [valD, List.foldl_nil, encs]) <;> (try omega)) ?_ ?_
      ·exact ⟨rfl, rfl⟩
      rintro ⟨a, b⟩ ⟨hE, ha⟩
      simp only at hE ha
      have hlen : (c :: r).length = a.length + b.length := by rw [hE, List.length_append]
      have hrl : (c :: r).length = r.length + 1 := rfl
      have ha18 : a.length ≤ 18 := by omega
      have hbd := valD_bd ha ha18
      simp only [↓sx0, xE, sevalprocAttr]
      rw [bs_size, hsz2]
      rcases b with _ | ⟨x, b⟩
      ·rw [List.append_nil] at hE
       simp only [List.length_nil] at hlen
       refine BrW.no (by omega) ?_
       simp only [↓sx0, xE, sevalprocAttr]
       have hv : numR (c :: r) dg = ((valD 0 a : Int), true) := by rw [good (by rw [hE]; exact ha), hE]
       skip
       refine EndW.fn ?_ ?_ <;> simp only [sx4, xK, sevalprocAttr] <;> (try simp [hv]) <;> (try omega)
      ·simp only [List.length_cons] at hlen
       refine BrW.yes (by omega) ?_
       simp only [↓sx0, xE, sevalprocAttr]
       have hb17 := valD_17 ha (by omega)
       have hx : (c :: r)[a.length]? = some x := by
        rw [hE]; simp
       refine sIx_x (a.length) x (by omega) hx ?_
       simp only [↓sx0, xE, sevalprocAttr]
       have badx : dgB x = false → numR (c :: r) dg = (0, false) := fun h => bad (by rw [hE, List.all_append, List.all_cons, h]; simp)
       refine BrW.dec (fun hl0 => ?_) (fun hl0 => ?_)
       ·simp only [↓sx0, xE, sevalprocAttr]
        have hv := badx (by simp only [dgB, decide_eq_false_iff_not]; omega)
        refine EndW.fn ?_ ?_ <;> simp only [sx4, xK, sevalprocAttr] <;> (try simp [hv]) <;> (try omega)
       ·simp only [↓sx0, xE, sevalprocAttr]
        refine sIx_x (a.length) x (by omega) hx ?_
        simp only [↓sx0, xE, sevalprocAttr]
        refine BrW.dec (fun hl1 => ?_) (fun hl1 => ?_)
        ·simp only [↓sx0, xE, sevalprocAttr]
         have hv := badx (by simp only [dgB, decide_eq_false_iff_not]; omega)
         refine EndW.fn ?_ ?_ <;> simp only [sx4, xK, sevalprocAttr] <;> (try simp [hv]) <;> (try omega)
        ·simp only [↓sx0, xE, sevalprocAttr]
         repeat ((with_reducible refine Vc.go ?_ fun _ => ?_); (focus (first | omega | (simp only [InK]; omega) | (simp [InK] <;> omega))); simp only [↓sx0, xE, sevalprocAttr])
         refine sIx_x (a.length) x (by omega) hx ?_
         simp only [↓sx0, xE, sevalprocAttr]
         repeat ((with_reducible refine Vc.go ?_ fun _ => ?_); (focus (first | omega | (simp only [InK]; omega) | (simp [InK] <;> omega))); simp only [↓sx0, xE, sevalprocAttr])
         have hvs : valD 0 (a ++ [x]) = valD 0 a * 10 + (x.toNat - 48) := by rw [valD_append]; rfl
         refine ⟨⟨a ++ [x], b⟩, StLe.auto (by simp only [sx2, xR, sevalprocAttr] <;> (try simp [hvs, encs]) <;> (try omega)), ?_, ?_⟩
         ·refine ⟨by simp only [hE, List.append_assoc, List.singleton_append], ?_⟩
          simp only [List.all_append, List.all_cons, List.all_nil, ha, dgB, Bool.true_and, Bool.and_true, decide_eq_true_eq]
          omega
         ·simp
    ·have hno := key (fun h => h48 (by rw [h.1]; rfl))
     simp only [↓sx0, xE, sevalprocAttr]
     have bad : (c :: r).all dgB = false → numR (c :: r) dg = (0, false) := fun h => by
      rw [numR, if_neg (by simp [hc]), if_neg hno]
      rw [if_neg (by rw [h]; simp)]
     have good : (c :: r).all dgB = true → numR (c :: r) dg = ((valD 0 (c :: r) : Int), true) := fun h => by
      rw [numR, if_neg (by simp [hc]), if_neg hno]
      rw [if_pos h]
     refine LoopW.comp [0, 6, 7, 8] (by simp only [sx2, xR, sevalprocAttr] <;> (try simp) <;> (try omega)) ?_
     simp only [sx2, sxR, sevalprocAttr]
     refine LoopW.up Tok (fun s : NS => [(8, (.v (.int .i64 ( s.a.length)))), (7, (.v (.int .i64 ((valD 0 s.a : Int)))))]) (fun s => []) (fun s => []) (fun s => []) (fun s => c :: r = s.a ++ s.b ∧ s.a.all dgB = true) (fun s => s.b.length) (⟨[], c :: r⟩) (by simp only [sx2, xR, sevalprocAttr] <;> (try simp [valD, List.foldl_nil, encs]) <;> (try omega)) ?_ ?_
     ·exact ⟨rfl, rfl⟩
     rintro ⟨a, b⟩ ⟨hE, ha⟩
     simp only at hE ha
     have hlen : (c :: r).length = a.length + b.length := by rw [hE, List.length_append]
     have hrl : (c :: r).length = r.length + 1 := rfl
     have ha18 : a.length ≤ 18 := by omega
     have hbd := valD_bd ha ha18
     simp only [↓sx0, xE, sevalprocAttr]
     rw [bs_size, hsz2]
     rcases b with _ | ⟨x, b⟩
     ·rw [List.append_nil] at hE
      simp only [List.length_nil] at hlen
      refine BrW.no (by omega) ?_
      simp only [↓sx0, xE, sevalprocAttr]
      have hv : numR (c :: r) dg = ((valD 0 a : Int), true) := by rw [good (by rw [hE]; exact ha), hE]
      skip
      refine EndW.fn ?_ ?_ <;> simp only [sx4, xK, sevalprocAttr] <;> (try simp [hv]) <;> (try omega)
     ·simp only [List.length_cons] at hlen
      refine BrW.yes (by omega) ?_
      simp only [↓sx0, xE, sevalprocAttr]
      have hb17 := valD_17 ha (by omega)
      have hx : (c :: r)[a.length]? = some x := by
       rw [hE]; simp
      refine sIx_x (a.length) x (by omega) hx ?_
      simp only [↓sx0, xE, sevalprocAttr]
      have badx : dgB x = false → numR (c :: r) dg = (0, false) := fun h => bad (by rw [hE, List.all_append, List.all_cons, h]; simp)
      refine BrW.dec (fun hl0 => ?_) (fun hl0 => ?_)
      ·simp only [↓sx0, xE, sevalprocAttr]
       have hv := badx (by simp only [dgB, decide_eq_false_iff_not]; omega)
       refine EndW.fn ?_ ?_ <;> simp only [sx4, xK, sevalprocAttr] <;> (try simp [hv]) <;> (try omega)
      ·simp only [↓sx0, xE, sevalprocAttr]
       refine sIx_x (a.length) x (by omega) hx ?_
       simp only [↓sx0, xE, sevalprocAttr]
       refine BrW.dec (fun hl1 => ?_) (fun hl1 => ?_)
       ·simp only [↓sx0, xE, sevalprocAttr]
        have hv := badx (by simp only [dgB, decide_eq_false_iff_not]; omega)
        refine EndW.fn ?_ ?_ <;> simp only [sx4, xK, sevalprocAttr] <;> (try simp [hv]) <;> (try omega)
       ·simp only [↓sx0, xE, sevalprocAttr]
        repeat ((with_reducible refine Vc.go ?_ fun _ => ?_); (focus (first | omega | (simp only [InK]; omega) | (simp [InK] <;> omega))); simp only [↓sx0, xE, sevalprocAttr])
        refine sIx_x (a.length) x (by omega) hx ?_
        simp only [↓sx0, xE, sevalprocAttr]
        repeat ((with_reducible refine Vc.go ?_ fun _ => ?_); (focus (first | omega | (simp only [InK]; omega) | (simp [InK] <;> omega))); simp only [↓sx0, xE, sevalprocAttr])
        have hvs : valD 0 (a ++ [x]) = valD 0 a * 10 + (x.toNat - 48) := by rw [valD_append]; rfl
        refine ⟨⟨a ++ [x], b⟩, StLe.auto (by simp only [sx2, xR, sevalprocAttr] <;> (try simp [hvs, encs]) <;> (try omega)), ?_, ?_⟩
        ·refine ⟨by simp only [hE, List.append_assoc, List.singleton_append], ?_⟩
         simp only [List.all_append, List.all_cons, List.all_nil, ha, dgB, Bool.true_and, Bool.and_true, decide_eq_true_eq]
         omega
        ·simp
end Go.Proofs.YtmbemlmkfoblhaaGreatDoor
/-
 Chapter 8: texts cut (the reference).
-/
namespace Go.Proofs.YtmbemlmkfoblhaaGreatDoor
open Go Go.Vx
set_option maxRecDepth 20000
def eW (p : List UInt8) : List D := [(.v (.string (bs p)))]
theorem eW_def : ∀ p, eW p = [(.v (.string (bs p)))] := fun _ => rfl
theorem bs_ext (A p B : List UInt8) (i j : Nat) (hi : i = A.length) (hj : j = A.length + p.length) : (bs (A ++ p ++ B)).extract i j = bs p := by
 subst hi hj
 apply ByteArray.ext
 simp only [bs, ByteArray.data_extract]
 apply Array.toList_inj.1
 simp [List.extract_eq_take_drop, List.drop_append, List.take_append]
structure CS where
 A : List UInt8
 p : List UInt8
 b : List UInt8
 O : List (List UInt8)
set_option maxHeartbeats 4000000 in
theorem cut_R (l : List UInt8) (c : UInt8) (hll : l.length ≤ 1000000) : Ctr Tryz.prog 34 [(.v (.string (bs l))), .v (.int .u8 (c.toNat : Int))] (fun rr => rr = ⟨.sl true 1 ((cutL c [] l).map eW), []⟩) := by
 have encs := And.intro encs eW_def
 refine Ctr.of (rs := [.tmp 4]) Tok true Tryz.func34 rfl rfl rfl rfl (by simp [ofDL]) (fun w0 kp => ?_)
 simp only [↓sx0, sxE, encs, sevalprocAttr]
 refine LoopW.comp [0, 1, 5, 6, 7] (by simp only [sx2, encs, sxR, sevalprocAttr] <;> (try simp) <;> (try omega)) ?_
 simp only [sx2, sxR, sevalprocAttr]
 refine LoopW.up Tok (fun s : CS => [(5, .row 0), (6, (.v (.int .i64 ((s.A.length : Int))))), (7, (.v (.int .i64 ((s.A.length : Int) + s.p.length))))]) (fun s => []) (fun s => []) (fun s => [.own 9 1 (s.O.map eW)]) (fun s => l = s.A ++ s.p ++ s.b ∧ cutL c [] l = s.O ++ cutL c s.p s.b ∧ s.O.length ≤ s.A.length) (fun s => s.b.length) (⟨[], [], l, []⟩) (by simp only [sx2, encs, sxR, sevalprocAttr] <;> (try simp) <;> (try omega)) ?_ ?_
 ·exact ⟨rfl, rfl, Nat.le_refl _⟩
 rintro ⟨A, p, b, O⟩ ⟨hl, hc, hO⟩
 simp only at hl hc hO
 have hlen : l.length = A.length + p.length + b.length := by rw [hl]; simp [Nat.add_assoc]
 simp only [↓sx0, sxE, encs, sevalprocAttr]
 rw [bs_size]
 rcases b with _ | ⟨x, b⟩
 ·simp only [List.length_nil] at hlen
  refine BrW.no (by omega) ?_
  simp only [↓sx0, sxE, encs, sevalprocAttr]
  have hsz := bs_size l
  have hex : ∀ i j, i = A.length → j = A.length + p.length → (bs l).extract i j = bs p := fun i j h1 h2 => by rw [hl]; exact bs_ext A p [] i j h1 h2
  repeat ((with_reducible refine Vc.go ?_ fun _ => ?_); (focus (first | omega | (simp only [InK]; omega) | (simp [InK] <;> omega))); simp only [↓sx0, sxE, encs, sevalprocAttr])
  rw [hex _ _ (by omega) (by omega)]
  have hcc : cutL c [] l = O ++ [p] := by rw [hc, cutL]
  refine EndW.fn ?_ ?_ <;> simp only [sx4, encs, kpLL_map, sxR, sevalprocAttr] <;> (try simp [hcc, eW]) <;> (try omega)
 ·simp only [List.length_cons] at hlen
  refine BrW.yes (by omega) ?_
  simp only [↓sx0, sxE, encs, sevalprocAttr]
  have hx : l[A.length + p.length]? = some x := by rw [hl]; simp
  refine sIx_x (A.length + p.length) x (by omega) hx ?_
  simp only [↓sx0, sxE, encs, sevalprocAttr]
  have hsz := bs_size l
  refine BrW.dec (fun heq => ?_) (fun heq => ?_)
  ·have heq : x = c := u8_eq.2 (by omega)
   subst heq
   simp only [↓sx0, sxE, encs, sevalprocAttr]
   have hex : ∀ i j, i = A.length → j = A.length + p.length → (bs l).extract i j = bs p := fun i j h1 h2 => by rw [hl]; exact bs_ext A p (x :: b) i j h1 h2
   repeat ((with_reducible refine Vc.go ?_ fun _ => ?_); (focus (first | omega | (simp only [InK]; omega) | (simp [InK] <;> omega))); simp only [↓sx0, sxE, encs, sevalprocAttr])
   rw [hex _ _ (by omega) (by omega)]
   repeat ((with_reducible refine Vc.go ?_ fun _ => ?_); (focus (first | omega | (simp only [InK]; omega) | (simp [InK] <;> omega))); simp only [↓sx0, sxE, encs, sevalprocAttr])
   refine ⟨⟨A ++ p ++ [x], [], b, O ++ [p]⟩, StLe.auto (by simp only [sx2, encs, sxR, sevalprocAttr] <;> (try simp [eW, encs]) <;> (try omega)), ?_, ?_⟩
   ·refine ⟨by rw [hl]; simp, ?_, ?_⟩
    ·rw [hc, cutL, if_pos rfl]; simp
    ·simp; omega
   ·simp
  ·have heq : ¬ x = c := fun e => heq (by rw [e])
   simp only [↓sx0, sxE, encs, sevalprocAttr]
   repeat ((with_reducible refine Vc.go ?_ fun _ => ?_); (focus (first | omega | (simp only [InK]; omega) | (simp [InK] <;> omega))); simp only [↓sx0, sxE, encs, sevalprocAttr])
   refine ⟨⟨A, p ++ [x], b, O⟩, StLe.auto (by simp only [sx2, encs, sxR, sevalprocAttr] <;> (try simp) <;> (try omega)), ?_, ?_⟩
   ·refine ⟨by rw [hl]; simp, ?_, hO⟩
    rw [hc, cutL, if_neg heq]
   ·simp
end Go.Proofs.YtmbemlmkfoblhaaGreatDoor
/-
 Chapter 8: words of texts.
-/
namespace Go.Proofs.YtmbemlmkfoblhaaGreatDoor
open Go Go.Vx
set_option maxRecDepth 20000
theorem itoa_len {n : Int} (h : -9223372036854775808 ≤ n ∧ n ≤ 9223372036854775807) : (Lib.itoa n).length ≤ 21 := by
 rw [Lib.itoa]
 split
 ·have := dec_len 19 n.natAbs (by omega)
  simp only [List.length_cons]; omega
 ·have := dec_len 19 n.toNat (by omega)
  omega
theorem split_T (s : List UInt8) (hs : s.length ≤ 1000000) : CtrK glob Tryz.prog 31 [(.v (.string (bs s))), (.v (.string (⟨#[32]⟩)))] (fun rr => rr = ⟨.row 0, [.own 9 1 ((cutL 32 [] s).map eW)]⟩) := by
 have h := split_s (bs s) 32 (by rw [bs_size]; omega)
 have e := split_cut 32 (bs s)
 rw [bs_toList] at e
 rw [show (cutL 32 [] s).map eW = (Lib.splitB ⟨#[32]⟩ 0 (Lib.countB (bs s) ⟨#[32]⟩) (bs s)).map fun x => [.v (.string x)] by
  rw [← e, List.map_map]
  exact List.map_congr_left fun x _ => by simp only [Function.comp, eW, bs_data]]
 exact h
theorem join_T (b : Bool) (W : List (List UInt8)) (hN : W.length ≤ 1000000) (hlen : (Lib.join W [32]).length ≤ 140737488355328) : Ctr Tryz.prog 30 [.sl b 1 (W.map eW), (.v (.string (⟨#[32]⟩)))] (fun rr => rr = ⟨(.v (.string (bs (Lib.join W [32])))), []⟩) := by
 have e : (W.map bs).map (·.data.toList) = W := by
  rw [List.map_map]
  conv => rhs; rw [← List.map_id W]
  exact List.map_congr_left fun x _ => bs_toList x
 have h := join_s b (W.map bs) ⟨#[32]⟩ (by simpa using hN) (by rw [e]; exact hlen)
 rw [e, List.map_map] at h
 exact h
theorem cut_join : ∀ (W : List (List UInt8)), W ≠ [] → (∀ w ∈ W, ¬ (32 : UInt8) ∈ w) → cutL 32 [] (Lib.join W [32]) = W
 | [], h, _ => absurd rfl h
 | [w], _, h => by rw [Lib.join_one, cut_miss _ _ (h w (by simp))]; rfl
 | w :: v :: r, _, h => by
  have ih := cut_join (v :: r) (by simp) (fun x hx => h x (List.mem_cons_of_mem _ hx))
  have hj : Lib.join (w :: v :: r) [32] = w ++ 32 :: Lib.join (v :: r) [32] := by
   rw [Lib.join_cons, Lib.join_cons]; simp [Lib.joinTail]
  rw [hj, cut_hit w [] _ (h w (by simp)), ih]; rfl
theorem join_len : ∀ (W : List (List UInt8)) (m : Nat), (∀ w ∈ W, w.length ≤ m) → (Lib.join W [32]).length ≤ (m + 1) * W.length
 | [], m, _ => by simp [Lib.join]
 | [w], m, h => by
  rw [Lib.join_one]
  have := h w (by simp)
  simp only [List.length_cons, List.length_nil]; omega
 | w :: v :: r, m, h => by
  have ih := join_len (v :: r) m (fun x hx => h x (List.mem_cons_of_mem _ hx))
  have h0 := h w (by simp)
  have hj : Lib.join (w :: v :: r) [32] = w ++ 32 :: Lib.join (v :: r) [32] := by
   rw [Lib.join_cons, Lib.join_cons]; simp [Lib.joinTail]
  rw [hj, List.length_append, List.length_cons, List.length_cons, Nat.mul_succ]
  omega
theorem cutL_mem (c : UInt8) : ∀ (l acc w : List UInt8), w ∈ cutL c acc l → w.length ≤ acc.length + l.length
 | [], acc, w, h => by
  simp only [cutL, List.mem_singleton] at h
  subst h; simp
 | x :: l, acc, w, h => by
  simp only [cutL] at h
  split at h
  ·rcases List.mem_cons.1 h with rfl | h
   ·simp
   ·have := cutL_mem c l [] w h
    simp only [List.length_nil, List.length_cons] at *; omega
  ·have := cutL_mem c l (acc ++ [x]) w h
   simp only [List.length_append, List.length_cons, List.length_nil] at *; omega
end Go.Proofs.YtmbemlmkfoblhaaGreatDoor
/-
 Chapter 8: the forms of marks.
-/
namespace Go.Proofs.YtmbemlmkfoblhaaGreatDoor
open Go Go.Vx
set_option maxRecDepth 20000
def plC (f : Nat) : List SV := [.pt true [.clo f []]]
theorem placed_s (f : Nat) : Ctr Tryz.prog 57 [.clo f []] (fun rr => rr = ⟨.clo 58 (plC f), []⟩) := by
 have encs := And.intro encs (show ∀ f, plC f = [.pt true [.clo f []]] from fun _ => rfl)
 refine Ctr.ofB (rs := [.tmp 2]) Tok Tryz.func57 rfl rfl rfl rfl (by simp [ofDL]) (fun w0 kp => ?_)
 simp only [↓sx0, sxE, encs, sevalprocAttr]
 simp only [endY, boxV, boxL, bxPs, bxPs.bx1, bxD, assB, ptB, bxV, bxL, toDL, toD, consO, vD, oneV, dedN, addN, memN, sxL, sx2, encs, sxR, sevalprocAttr]
 exact EndW.fn (by simp only [sx4, encs, kpLL_map, sxR, sevalprocAttr] <;> (try simp) <;> (try omega)) (by simp only [sx4, encs, kpLL_map, sxR, sevalprocAttr] <;> (try simp) <;> (try omega))
def plD (f : Nat) : D := .clo 58 [.pt true [.clo f []]]
def frE : List (List D) := [[.v (.string ⟨#[]⟩), .v .nilFunc], [.v (.string (nmB 1)), plD 60], [.v (.string (nmB 2)), plD 61], [.v (.string (nmB 3)), plD 62], [.v (.string (nmB 4)), plD 63], [.v (.string (nmB 5)), plD 59], [.v (.string (nmB 6)), plD 59], [.v (.string (nmB 7)), .clo 64 []]]
theorem forms_s : Ctr Tryz.prog 28 [] (fun rr => rr = ⟨.sl true 2 frE, []⟩) := by
 have encs := And.intro encs (And.intro (show ∀ f, plC f = [.pt true [.clo f []]] from fun _ => rfl) (show ∀ f, plD f = .clo 58 [.pt true [.clo f []]] from fun _ => rfl))
 refine Ctr.of (rs := [.tmp 0]) Tok true Tryz.func28 rfl rfl rfl rfl (by simp [ofDL]) (fun w0 kp => ?_)
 simp only [↓sx0, sxE, encs, sevalprocAttr]
 refine CallI.fn (placed_s 60) (by simp only [sx3, encs, sxR, sevalprocAttr] <;> (try simp) <;> (try rfl)) ?_
 simp only [↓sx0, sxE, encs, sevalprocAttr]
 refine CallI.fn (placed_s 61) (by simp only [sx3, encs, sxR, sevalprocAttr] <;> (try simp) <;> (try rfl)) ?_
 simp only [↓sx0, sxE, encs, sevalprocAttr]
 refine CallI.fn (placed_s 62) (by simp only [sx3, encs, sxR, sevalprocAttr] <;> (try simp) <;> (try rfl)) ?_
 simp only [↓sx0, sxE, encs, sevalprocAttr]
 refine CallI.fn (placed_s 63) (by simp only [sx3, encs, sxR, sevalprocAttr] <;> (try simp) <;> (try rfl)) ?_
 simp only [↓sx0, sxE, encs, sevalprocAttr]
 refine CallI.fn (placed_s 59) (by simp only [sx3, encs, sxR, sevalprocAttr] <;> (try simp) <;> (try rfl)) ?_
 simp only [↓sx0, sxE, encs, sevalprocAttr]
 refine CallI.fn (placed_s 59) (by simp only [sx3, encs, sxR, sevalprocAttr] <;> (try simp) <;> (try rfl)) ?_
 simp only [↓sx0, sxE, encs, sevalprocAttr]
 refine EndW.fn ?_ ?_ <;> simp only [sx4, encs, kpLL_map, sxR, sevalprocAttr] <;> (try simp) <;> (try omega)
 ·rfl
 ·simp [frE, plD, kpLL, kpL, kpD]
end Go.Proofs.YtmbemlmkfoblhaaGreatDoor
/-
 Chapter 8, walks: small ones, words.
-/
namespace Go.Proofs.YtmbemlmkfoblhaaGreatDoor
open Go Go.Vx
set_option maxRecDepth 20000
theorem within_s (n lo hi : Int) : Ctr Tryz.prog 27 [(.v (.int .i64 n)), (.v (.int .i64 lo)), (.v (.int .i64 hi))] (fun rr => rr = ⟨(.v (.bool (decide (lo ≤ n ∧ n ≤ hi)))), []⟩) := by
 refine Ctr.of (rs := [.tmp 6]) Tok true Tryz.func27 rfl rfl rfl rfl (by simp [ofDL]) (fun w0 kp => ?_)
 simp only [↓sx0, xE, sevalprocAttr]
 refine BrW.dec (fun h => ?_) (fun h => ?_)
 ·simp only [↓sx0, xE, sevalprocAttr]
  refine EndW.fn ?_ ?_ <;> simp only [sx4, xK, sevalprocAttr] <;> (try simp [h]) <;> (try omega)
 ·simp only [↓sx0, xE, sevalprocAttr]
  refine EndW.fn ?_ ?_ <;> simp only [sx4, xK, sevalprocAttr] <;> (try simp [h]) <;> (try omega)
theorem withinT_s (n lo hi : Int) : Ctr Tryz.prog 133 [(.v (.int .i64 n)), (.v (.int .i64 lo)), (.v (.int .i64 hi))] (fun rr => rr = ⟨(.v (.bool (decide (lo ≤ n ∧ n ≤ hi)))), []⟩) := by
 refine Ctr.of (rs := [.tmp 6]) Tok true Tryz.func133 rfl rfl rfl rfl (by simp [ofDL]) (fun w0 kp => ?_)
 simp only [↓sx0, xE, sevalprocAttr]
 refine BrW.dec (fun h => ?_) (fun h => ?_)
 ·simp only [↓sx0, xE, sevalprocAttr]
  refine EndW.fn ?_ ?_ <;> simp only [sx4, xK, sevalprocAttr] <;> (try simp [h]) <;> (try omega)
 ·simp only [↓sx0, xE, sevalprocAttr]
  refine EndW.fn ?_ ?_ <;> simp only [sx4, xK, sevalprocAttr] <;> (try simp [h]) <;> (try omega)
theorem withinB_s (n lo hi : Int) : Ctr Tryz.prog 40 [(.v (.int .i64 n)), (.v (.int .i64 lo)), (.v (.int .i64 hi))] (fun rr => rr = ⟨(.v (.bool (decide (lo ≤ n ∧ n ≤ hi)))), []⟩) := by
 refine Ctr.of (rs := [.tmp 6]) Tok true Tryz.func40 rfl rfl rfl rfl (by simp [ofDL]) (fun w0 kp => ?_)
 simp only [↓sx0, xE, sevalprocAttr]
 refine BrW.dec (fun h => ?_) (fun h => ?_)
 ·simp only [↓sx0, xE, sevalprocAttr]
  refine EndW.fn ?_ ?_ <;> simp only [sx4, xK, sevalprocAttr] <;> (try simp [h]) <;> (try omega)
 ·simp only [↓sx0, xE, sevalprocAttr]
  refine EndW.fn ?_ ?_ <;> simp only [sx4, xK, sevalprocAttr] <;> (try simp [h]) <;> (try omega)
theorem isKind_s (n : Int) : Ctr Tryz.prog 72 [(.v (.int .i64 n))] (fun rr => rr = ⟨(.v (.bool (decide (1 ≤ n ∧ n ≤ 3)))), []⟩) := by
 refine Ctr.of (rs := [.tmp 2]) Tok true Tryz.func72 rfl rfl rfl rfl (by simp [ofDL]) (fun w0 kp => ?_)
 simp only [↓sx0, xE, sevalprocAttr]
 refine CallI.fn (within_s n 1 3) (by simp only [sx3, xR, sevalprocAttr] <;> (try simp) <;> (try rfl)) ?_
 simp only [↓sx0, xE, sevalprocAttr]
 refine EndW.fn ?_ ?_ <;> simp only [sx4, xK, sevalprocAttr] <;> (try simp) <;> (try omega)
theorem isKindR_s (n : Int) : Ctr Tryz.prog 74 [(.v (.int .i64 n))] (fun rr => rr = ⟨(.v (.bool (decide (1 ≤ n ∧ n ≤ 3)))), []⟩) := by
 refine Ctr.of (rs := [.tmp 2]) Tok true Tryz.func74 rfl rfl rfl rfl (by simp [ofDL]) (fun w0 kp => ?_)
 simp only [↓sx0, xE, sevalprocAttr]
 refine CallI.fn (withinB_s n 1 3) (by simp only [sx3, xR, sevalprocAttr] <;> (try simp) <;> (try rfl)) ?_
 simp only [↓sx0, xE, sevalprocAttr]
 refine EndW.fn ?_ ?_ <;> simp only [sx4, xK, sevalprocAttr] <;> (try simp) <;> (try omega)
theorem isMark_s (s : ByteArray) : Ctr Tryz.prog 136 [(.v (.string (s)))] (fun rr => rr = ⟨(.v (.bool (isMk s))), []⟩) := by
 refine Ctr.of (rs := [.tmp 2]) Tok true Tryz.func136 rfl rfl rfl rfl (by simp [ofDL]) (fun w0 kp => ?_)
 simp only [↓sx0, xE, sevalprocAttr]
 refine BrW.dec (fun h => ?_) (fun h => ?_)
 ·simp only [↓sx0, xE, sevalprocAttr]
  have : isMk s = true := by unfold isMk; rw [decide_eq_true (show s = hash from h)]; rfl
  refine EndW.fn ?_ ?_ <;> simp only [sx4, xK, sevalprocAttr] <;> (try simp [this]) <;> (try omega)
 ·simp only [↓sx0, xE, sevalprocAttr]
  have : isMk s = decide (s = ⟨#[94]⟩) := by unfold isMk; rw [decide_eq_false (show ¬ s = hash from h)]; rfl
  refine EndW.fn ?_ ?_ <;> simp only [sx4, xK, sevalprocAttr] <;> (try simp [this]) <;> (try omega)
theorem bytesD_eq (s : ByteArray) : bytesD s = s.data.toList.map fun b => [.v (.int .u8 (b.toNat : Int))] := rfl
theorem bytesD_len (s : ByteArray) : (bytesD s).length = s.size := by simp [bytesD]
theorem isWord_s (s : ByteArray) (hs : s.size ≤ 1000000000) : Ctr Tryz.prog 71 [(.v (.string (s)))] (fun rr => rr = ⟨(.v (.bool (isWd s))), []⟩) := by
 refine Ctr.of (rs := [.tmp 2]) Tok true Tryz.func71 rfl rfl rfl rfl (by simp [ofDL]) (fun w0 kp => ?_)
 simp only [↓sx0, xE, sevalprocAttr]
 rw [bytesD_len]
 refine LoopW.comp [0, 6, 7, 8] (by simp only [sx2, xR, sevalprocAttr] <;> (try simp) <;> (try omega)) ?_
 simp only [sx2, sxR, sevalprocAttr]
 refine LoopW.up Tok (fun k : Nat => [(8, (.v (.int .i64 k)))]) (fun k => []) (fun k => []) (fun k => []) (fun k => k ≤ s.size ∧ (s.data.toList.take k).all okB = true) (fun k => s.size - k) (0) (by simp only [sx2, xR, sevalprocAttr] <;> (try simp) <;> (try omega)) ?_ ?_
 ·exact ⟨by omega, by simp⟩
 rintro k ⟨hk, ht⟩
 simp only [↓sx0, xE, sevalprocAttr]
 refine BrW.dec (fun hlt => ?_) (fun hlt => ?_)
 ·simp only [↓sx0, xE, sevalprocAttr]
  have hlt : k < s.size := by omega
  have hl : k < s.data.toList.length := by simpa using hlt
  rw [bytesD_eq]
  refine IxW.nat hl ?_
  simp only [↓sx0, xE, sevalprocAttr]
  have nxt := take_all_succ hl ht
  have bad := bytesOk_bad (s := s) hl
  generalize hcc : s.data.toList[k] = c at nxt bad ⊢
  clear hcc
  refine BrW.dec (fun h1 => ?_) (fun h1 => ?_)
  ·simp only [↓sx0, xE, sevalprocAttr]
   have : isWd s = false := by rw [isWd, bad (by simp [okB]; omega)]; rfl
   refine EndW.fn ?_ ?_ <;> simp only [sx4, xK, sevalprocAttr] <;> (try simp [this]) <;> (try omega)
  ·simp only [↓sx0, xE, sevalprocAttr]
   refine BrW.dec (fun h2 => ?_) (fun h2 => ?_)
   ·simp only [↓sx0, xE, sevalprocAttr]
    have : isWd s = false := by rw [isWd, bad (by simp [okB]; omega)]; rfl
    refine EndW.fn ?_ ?_ <;> simp only [sx4, xK, sevalprocAttr] <;> (try simp [this]) <;> (try omega)
   ·simp only [↓sx0, xE, sevalprocAttr]
    (with_reducible refine Vc.go ?_ fun _ => ?_); focus (first | omega | (simp only [InK]; omega) | (simp [InK] <;> omega))
    simp only [↓sx0, xE, sevalprocAttr]
    refine ⟨k + 1, StLe.auto (by simp only [sx2, xR, sevalprocAttr] <;> (try simp) <;> (try omega)), ?_, ?_⟩
    ·exact ⟨by omega, nxt (by simp [okB]; omega)⟩
    ·omega
 ·simp only [↓sx0, xE, sevalprocAttr]
  have hke : k = s.size := by omega
  subst hke
  refine CallI.fn (within_s (s.size : Int) 1 30) (by simp only [sx3, xR, sevalprocAttr] <;> (try simp) <;> (try rfl)) ?_
  simp only [↓sx0, xE, sevalprocAttr]
  have : isWd s = decide ((1 : Int) ≤ (s.size : Int) ∧ (s.size : Int) ≤ 30) := by
   rw [isWd, bytesOk, ← List.take_length (l := s.data.toList), show s.data.toList.length = s.size by simp, ht, Bool.true_and, decide_eq_decide]; omega
  refine EndW.fn ?_ ?_ <;> simp only [sx4, xK, sevalprocAttr] <;> (try simp [this]) <;> (try omega)
theorem isByteR_s (c : UInt8) : Ctr Tryz.prog 97 [.v (.int .u8 (c.toNat : Int))] (fun rr => rr = ⟨(.v (.bool (okB c))), []⟩) := by
 refine Ctr.of (rs := [.tmp 2]) Tok true Tryz.func97 rfl rfl rfl rfl (by simp [ofDL]) (fun w0 kp => ?_)
 simp only [↓sx0, xE, sevalprocAttr]
 refine BrW.dec (fun h => ?_) (fun h => ?_)
 ·simp only [↓sx0, xE, sevalprocAttr]
  have : okB c = decide ((c.toNat : Int) ≤ 126) := by unfold okB; rw [decide_eq_decide]; omega
  refine EndW.fn ?_ ?_ <;> simp only [sx4, xK, sevalprocAttr] <;> (try simp [this]) <;> (try omega)
 ·simp only [↓sx0, xE, sevalprocAttr]
  have : okB c = false := by unfold okB; rw [decide_eq_false_iff_not]; omega
  refine EndW.fn ?_ ?_ <;> simp only [sx4, xK, sevalprocAttr] <;> (try simp [this]) <;> (try omega)
theorem isWordR_s (s : ByteArray) (hs : s.size ≤ 1000000000) : Ctr Tryz.prog 73 [(.v (.string (s)))] (fun rr => rr = ⟨(.v (.bool (isWd s))), []⟩) := by
 refine Ctr.of (rs := [.tmp 2]) Tok true Tryz.func73 rfl rfl rfl rfl (by simp [ofDL]) (fun w0 kp => ?_)
 simp only [↓sx0, xE, sevalprocAttr]
 refine LoopW.comp [0, 3] (by simp only [sx2, xR, sevalprocAttr] <;> (try simp) <;> (try omega)) ?_
 simp only [sx2, sxR, sevalprocAttr]
 refine LoopW.up Tok (fun k : Nat => [(3, (.v (.int .i64 k)))]) (fun k => []) (fun k => []) (fun k => []) (fun k => k ≤ s.size ∧ (s.data.toList.take k).all okB = true) (fun k => s.size - k) (0) (by simp only [sx2, xR, sevalprocAttr] <;> (try simp) <;> (try omega)) ?_ ?_
 ·exact ⟨by omega, by simp⟩
 rintro k ⟨hk, ht⟩
 simp only [↓sx0, xE, sevalprocAttr]
 refine BrW.dec (fun hlt => ?_) (fun hlt => ?_)
 ·simp only [↓sx0, xE, sevalprocAttr]
  have hlt : k < s.size := by omega
  have hl : k < s.data.toList.length := by simpa using hlt
  refine StrIx.nat hlt ?_
  have nxt := take_all_succ hl ht
  have bad := bytesOk_bad (s := s) hl
  have hce : s[k] = s.data.toList[k] := rfl
  rw [hce]
  generalize hcc : s.data.toList[k] = c at nxt bad ⊢
  clear hcc hce
  simp only [↓sx0, xE, sevalprocAttr]
  refine CallI.fn (isByteR_s c) (by simp only [sx3, xR, sevalprocAttr] <;> (try simp) <;> (try rfl)) ?_
  simp only [↓sx0, xE, sevalprocAttr]
  refine BrW.of (fun hb => ?_) (fun hb => ?_)
  ·simp only [↓sx0, xE, sevalprocAttr]
   (with_reducible refine Vc.go ?_ fun _ => ?_); focus (first | omega | (simp only [InK]; omega) | (simp [InK] <;> omega))
   simp only [↓sx0, xE, sevalprocAttr]
   refine ⟨k + 1, StLe.auto (by simp only [sx2, xR, sevalprocAttr] <;> (try simp) <;> (try omega)), ?_, ?_⟩
   ·exact ⟨by omega, nxt hb⟩
   ·omega
  ·simp only [↓sx0, xE, sevalprocAttr]
   have : isWd s = false := by rw [isWd, bad hb]; rfl
   refine EndW.fn ?_ ?_ <;> simp only [sx4, xK, sevalprocAttr] <;> (try simp [this]) <;> (try omega)
 ·simp only [↓sx0, xE, sevalprocAttr]
  have hke : k = s.size := by omega
  subst hke
  refine CallI.fn (withinB_s (s.size : Int) 1 30) (by simp only [sx3, xR, sevalprocAttr] <;> (try simp) <;> (try rfl)) ?_
  simp only [↓sx0, xE, sevalprocAttr]
  have : isWd s = decide ((1 : Int) ≤ (s.size : Int) ∧ (s.size : Int) ≤ 30) := by
   rw [isWd, bytesOk, ← List.take_length (l := s.data.toList), show s.data.toList.length = s.size by simp, ht, Bool.true_and, decide_eq_decide]; omega
  refine EndW.fn ?_ ?_ <;> simp only [sx4, xK, sevalprocAttr] <;> (try simp [this]) <;> (try omega)
end Go.Proofs.YtmbemlmkfoblhaaGreatDoor
/-
 Whether a text is a word: the library's search for a rune, by its own contract.
-/
namespace Go.Proofs.YtmbemlmkfoblhaaGreatDoor
open Go Go.Vx Go.Shelf Go.RowKit
def rIdx : Ren := ⟨fun | 315 => 166 | n => n, fun | 9 => 9 | 40 => 186 | 4 => 4 | 3 => 3 | 0 => 0 | 21 => 21 | n => n, fun n => n⟩
theorem laysIdx : Lays.n315 Tryz.prog rIdx := { mixed := rfl, f315 := Tryz.func166, t0 := Tryz.underlying0, a0 := Tryz.isAgg0, z0 := Tryz.sizeOf0, v0 := Tryz.zeroValue0, t3 := Tryz.underlying3, a3 := Tryz.isAgg3, z3 := Tryz.sizeOf3, v3 := Tryz.zeroValue3, t4 := Tryz.underlying4, a4 := Tryz.isAgg4, z4 := Tryz.sizeOf4, v4 := Tryz.zeroValue4, t9 := Tryz.underlying9, a9 := Tryz.isAgg9, z9 := Tryz.sizeOf9, v9 := Tryz.zeroValue9, t21 := Tryz.underlying21, a21 := Tryz.isAgg21, z21 := Tryz.sizeOf21, v21 := Tryz.zeroValue21, t40 := Tryz.underlying186, a40 := Tryz.isAgg186, z40 := Tryz.sizeOf186, v40 := Tryz.zeroValue186 }
def badR (r : Nat) : Bool := decide (r < 33) || decide (126 < r)
theorem isWord1_s (r : Nat) : Ctr Tryz.prog 158 [.v (.int .i32 (r : Int))] (fun rr => rr = ⟨(.v (.bool (badR r))), []⟩) := by
 refine Ctr.of (rs := [.tmp 2]) Tok true Tryz.func158 rfl rfl rfl rfl (by simp [ofDL]) (fun w0 kp => ?_)
 simp only [↓sx0, xE, sevalprocAttr]
 refine BrW.dec (fun h => ?_) (fun h => ?_)
 ·simp only [↓sx0, xE, sevalprocAttr]
  have : badR r = true := by simp [badR]; omega
  refine EndW.fn ?_ ?_ <;> simp only [sx4, xK, sevalprocAttr] <;> (try simp [this]) <;> (try omega)
 ·simp only [↓sx0, xE, sevalprocAttr]
  have : badR r = decide (126 < (r : Int)) := by rw [Bool.eq_iff_iff]; simp [badR]; omega
  refine EndW.fn ?_ ?_ <;> simp only [sx4, xK, sevalprocAttr] <;> (try simp [this]) <;> (try omega)
/-- a contract with values, as a fact on calls. -/
theorem ctr_call {P : Program} {f : FuncId} {xs : List Value} {u : Value} (h : Ctr P f (xs.map .v) (fun rr => rr = ⟨.v u, []⟩)) (w : World) : Calls P f xs.toArray w fun e w' => e = .returned u ∧ Below w.heap.size w w' := by
 refine (h.2 w (fun _ => none) (fun b o hb => by cases hb) xs (rels_same xs)).mono ?_
 rintro e w' ⟨v, r, rfl, rfl, hb, g, _, _, hv, _⟩
 simp only [rel] at hv
 exact ⟨by rw [hv], hb⟩
theorem grows (w : World) : PredGrows Tryz.prog 158 #[] badR w := fun W x _ _ => by
 have := ctr_call (xs := [.int .i32 (x : Int)]) (isWord1_s x) W
 simpa using this
theorem callee (args : Array Value) (w : World) : (callFunc 158 args).run Tryz.prog w = .ok (.enter 158 args) w := Go.Proofs.enters_of Tryz.func158 (by kernel_rfl) rfl args w
theorem indexFunc_s (s : ByteArray) : Ctr Tryz.prog 166 [(.v (.string (s))), .clo 158 [], (.v (.bool (true)))] (fun rr => rr = ⟨(.v (.int .i64 (Lib.idxFunc badR true s))), []⟩) := by
 refine ⟨⟨_, Tryz.func166, rfl, rfl⟩, fun w kp hk vs hr => ?_⟩
 match vs, hr with
 | [a, b, c], ⟨h1, ⟨cs, h2, h3⟩, h4, _⟩ =>
  simp only [rel] at h1 h4
  have hcs : cs = #[] := by
   cases hl : cs.toList with
   | nil => simpa using hl
   | cons x l => rw [hl] at h3; exact h3.elim
  subst hcs
  rw [h1, h2, h4]
  have := Any.strings_indexFunc_grows laysIdx 158 #[] callee badR true s w (grows w)
  refine Calls.mono this ?_
  rintro e w' ⟨rfl, hb⟩
  exact ⟨_, _, rfl, rfl, RetOk.plain hk hb fun g => rfl⟩
theorem decode_big (s : ByteArray) (pos : Nat) (h : pos < s.size) (ha : 128 ≤ s[pos].toNat) : 128 ≤ (Utf8.decode s pos).1 := by
 have h0 : (s.get! (pos + 0)).toNat = s[pos].toNat := by simp [ByteArray.get!, h, getElem!_pos, ByteArray.getElem_eq_getElem_data]
 unfold Utf8.decode
 simp only [h0, Utf8.runeError]
 repeat' split
 all_goals first | omega | (rename_i hh; simp only [Bool.and_eq_true, decide_eq_true_eq] at hh; omega) | (simp_all; done) | (simp_all; omega)
theorem idx_from {s : ByteArray} : ∀ (f pos : Nat), s.size ≤ pos + f → (Lib.idxFuncFrom badR true s f pos < 0 ↔ (s.data.toList.drop pos).all okB = true)
 | 0, pos, h => by
  have : s.data.toList.drop pos = [] := List.drop_eq_nil_iff.2 (by simp; omega)
  simp [Lib.idxFuncFrom, this]
 | f + 1, pos, h => by
  unfold Lib.idxFuncFrom
  split
  ·rename_i hlt
   have hl : pos < s.data.toList.length := by simpa using hlt
   rw [List.drop_eq_getElem_cons hl, List.all_cons]
   have hce : s[pos] = s.data.toList[pos] := rfl
   rw [← hce]
   by_cases ha : s[pos].toNat < 128
   ·rw [decode_ascii s pos hlt ha]
    by_cases hb : badR s[pos].toNat = true
    ·rw [if_pos hb]
     have : okB s[pos] = false := by simp only [badR, Bool.or_eq_true, decide_eq_true_eq] at hb; simp [okB]; omega
     rw [this]; simp
    ·rw [if_neg hb, idx_from f (pos + 1) (by omega)]
     have : okB s[pos] = true := by simp only [badR, Bool.or_eq_true, decide_eq_true_eq] at hb; simp [okB]; omega
     rw [this, Bool.true_and]
   ·have h1 := decode_big s pos hlt (by omega)
    rw [if_pos (by simp [badR]; omega)]
    have : okB s[pos] = false := by simp [okB]; omega
    rw [this]; simp
  ·have : s.data.toList.drop pos = [] := List.drop_eq_nil_iff.2 (by simp; omega)
   simp [this]
theorem idx_ok (s : ByteArray) : decide (Lib.idxFunc badR true s < 0) = bytesOk s := by
 have := idx_from (s := s) s.size 0 (by omega)
 rw [Bool.eq_iff_iff, decide_eq_true_eq]
 simpa [Lib.idxFunc, bytesOk] using this
theorem isWordT_s (s : ByteArray) : Ctr Tryz.prog 135 [(.v (.string (s)))] (fun rr => rr = ⟨(.v (.bool (isWd s))), []⟩) := by
 have hI : Ctr Tryz.prog 157 [(.v (.string (s))), .clo 158 []] (fun rr => rr = ⟨(.v (.int .i64 (Lib.idxFunc badR true s))), []⟩) := by
  refine Ctr.of (rs := [.tmp 4]) Tok true Tryz.func157 rfl rfl rfl rfl (by simp [ofDL]) (fun w0 kp => ?_)
  simp only [↓sx0, xE, sevalprocAttr]
  refine CallI.fn (indexFunc_s s) (by simp only [sx3, xR, sevalprocAttr] <;> (try simp) <;> (try rfl)) ?_
  simp only [↓sx0, xE, sevalprocAttr]
  refine EndW.fn ?_ ?_ <;> simp only [sx4, xK, sevalprocAttr] <;> (try simp) <;> (try omega)
 refine Ctr.of (rs := [.tmp 2]) Tok true Tryz.func135 rfl rfl rfl rfl (by simp [ofDL]) (fun w0 kp => ?_)
 simp only [↓sx0, xE, sevalprocAttr]
 refine CallI.fn (withinT_s (s.size : Int) 1 30) (by simp only [sx3, xR, sevalprocAttr] <;> (try simp) <;> (try rfl)) ?_
 simp only [↓sx0, xE, sevalprocAttr]
 refine BrW.of (fun hw => ?_) (fun hw => ?_)
 ·have hw : (1 : Int) ≤ s.size ∧ (s.size : Int) ≤ 30 := by simpa using hw
  simp only [↓sx0, xE, sevalprocAttr]
  refine CallI.fn (hI) (by simp only [sx3, xR, sevalprocAttr] <;> (try simp) <;> (try rfl)) ?_
  simp only [↓sx0, xE, sevalprocAttr]
  rw [idx_ok]
  have : isWd s = bytesOk s := by rw [isWd, decide_eq_true (show 1 ≤ s.size ∧ s.size ≤ 30 by omega), Bool.and_true]
  refine EndW.fn ?_ ?_ <;> simp only [sx4, xK, sevalprocAttr] <;> (try simp [this]) <;> (try omega)
 ·have hw : ¬ ((1 : Int) ≤ s.size ∧ (s.size : Int) ≤ 30) := by simpa using hw
  simp only [↓sx0, xE, sevalprocAttr]
  have : isWd s = false := by rw [isWd, decide_eq_false (show ¬ (1 ≤ s.size ∧ s.size ≤ 30) by omega), Bool.and_false]
  refine EndW.fn ?_ ?_ <;> simp only [sx4, xK, sevalprocAttr] <;> (try simp [this]) <;> (try omega)
end Go.Proofs.YtmbemlmkfoblhaaGreatDoor
/-
 Chapter 8, walks: parts of a copy are right.
-/
namespace Go.Proofs.YtmbemlmkfoblhaaGreatDoor
open Go Go.Vx
set_option maxRecDepth 20000
def ixG {α : Type} (p : α → Bool) (l : List α) : Int := match l.findIdx? p with
 | some k => (k : Int)
 | none => -1
theorem ixG_at {α : Type} {p : α → Bool} {l : List α} {k : Nat} (hk : k < l.length) (he : p l[k] = true) (ht : ∀ j (_ : j < k) (h2 : j < l.length), p l[j] = false) : ixG p l = k := by
 have : l.findIdx? p = some k := by
  rw [List.findIdx?_eq_some_iff_getElem]
  exact ⟨hk, he, fun j hj => by simpa using ht j hj (by omega)⟩
 simp [ixG, this]
theorem ixG_no {α : Type} {p : α → Bool} {l : List α} (ht : ∀ j (h2 : j < l.length), p l[j] = false) : ixG p l = -1 := by
 have : l.findIdx? p = none := by
  rw [List.findIdx?_eq_none_iff]
  intro y hy
  obtain ⟨j, h1, rfl⟩ := List.getElem_of_mem hy
  exact ht j h1
 simp [ixG, this]
theorem ixG_any {α : Type} {p : α → Bool} {l : List α} : decide (0 ≤ ixG p l) = l.any p := by
 rw [Bool.eq_iff_iff, decide_eq_true_eq, List.any_eq_true]
 unfold ixG
 cases h : l.findIdx? p with
 | none =>
  rw [List.findIdx?_eq_none_iff] at h
  simp only
  refine ⟨fun h => by omega, fun ⟨x, h1, h2⟩ => ?_⟩
  rw [h x h1] at h2; cases h2
 | some k =>
  rw [List.findIdx?_eq_some_iff_getElem] at h
  obtain ⟨h1, h2, _⟩ := h
  exact ⟨fun _ => ⟨_, List.getElem_mem h1, h2⟩, fun _ => by simp only; omega⟩
theorem indexS_s (b : Bool) (f : Nat) (p : ByteArray → Bool) (l : List ByteArray) (hl : l.length ≤ 1000000000) (hof : ∀ x ∈ l, Ctr Tryz.prog f [(.v (.string (x)))] (fun rr => rr = ⟨(.v (.bool (p x))), []⟩)) : Ctr Tryz.prog 113 [.sl b 1 (l.map eS), .clo f []] (fun rr => rr = ⟨(.v (.int .i64 (ixG p l))), []⟩) := by
 refine Ctr.of (rs := [.tmp 4]) Tok true Tryz.func113 rfl rfl rfl rfl (by simp [ofDL]) (fun w0 kp => ?_)
 simp only [↓sx0, xE, sevalprocAttr]
 refine LoopW.comp [0, 1, 7, 8] (by simp only [sx2, xR, sevalprocAttr] <;> (try simp) <;> (try omega)) ?_
 simp only [sx2, sxR, sevalprocAttr]
 refine LoopW.up Tok (fun k : Nat => [(8, (.v (.int .i64 k)))]) (fun k => []) (fun k => []) (fun k => []) (fun k => k ≤ l.length ∧ ∀ j (_ : j < k) (h2 : j < l.length), p l[j] = false) (fun k => l.length - k) (0) (by simp only [sx2, xR, sevalprocAttr] <;> (try simp) <;> (try omega)) ?_ ?_
 ·exact ⟨by omega, fun j h => absurd h (Nat.not_lt_zero _)⟩
 rintro k ⟨hk, ht⟩
 simp only [↓sx0, xE, sevalprocAttr]
 refine BrW.dec (fun hlt => ?_) (fun hlt => ?_)
 ·simp only [↓sx0, xE, sevalprocAttr]
  have hlt : k < l.length := by omega
  refine IxW.nat hlt ?_
  simp only [↓sx0, xE, sevalprocAttr]
  refine CallI.fn (hof l[k] (List.getElem_mem hlt)) (by simp only [sx3, xR, sevalprocAttr] <;> (try simp) <;> (try rfl)) ?_
  simp only [↓sx0, xE, sevalprocAttr]
  refine BrW.of (fun hb => ?_) (fun hb => ?_)
  ·simp only [↓sx0, xE, sevalprocAttr]
   have := ixG_at hlt hb ht
   refine EndW.fn ?_ ?_ <;> simp only [sx4, xK, sevalprocAttr] <;> (try simp [this]) <;> (try omega)
  ·simp only [↓sx0, xE, sevalprocAttr]
   (with_reducible refine Vc.go ?_ fun _ => ?_); focus (first | omega | (simp only [InK]; omega) | (simp [InK] <;> omega))
   simp only [↓sx0, xE, sevalprocAttr]
   refine ⟨k + 1, StLe.auto (by simp only [sx2, xR, sevalprocAttr] <;> (try simp) <;> (try omega)), ?_, ?_⟩
   ·refine ⟨hlt, fun j h h2 => ?_⟩
    by_cases e : j = k
    ·subst e; exact hb
    ·exact ht j (by omega) h2
   ·omega
 ·simp only [↓sx0, xE, sevalprocAttr]
  have hke : k = l.length := by omega
  subst hke
  have := ixG_no (l := l) (p := p) fun j h => ht j h h
  refine EndW.fn ?_ ?_ <;> simp only [sx4, xK, sevalprocAttr] <;> (try simp [this]) <;> (try omega)
theorem containsS_s (b : Bool) (f : Nat) (p : ByteArray → Bool) (l : List ByteArray) (hl : l.length ≤ 1000000000) (hof : ∀ x ∈ l, Ctr Tryz.prog f [(.v (.string (x)))] (fun rr => rr = ⟨(.v (.bool (p x))), []⟩)) : Ctr Tryz.prog 86 [.sl b 1 (l.map eS), .clo f []] (fun rr => rr = ⟨(.v (.bool (l.any p))), []⟩) := by
 refine Ctr.of (rs := [.tmp 4]) Tok true Tryz.func86 rfl rfl rfl rfl (by simp [ofDL]) (fun w0 kp => ?_)
 simp only [↓sx0, xE, sevalprocAttr]
 refine CallI.fn (indexS_s b f p l hl hof) (by simp only [sx3, xR, sevalprocAttr] <;> (try simp) <;> (try rfl)) ?_
 simp only [↓sx0, xE, sevalprocAttr]
 rw [ixG_any]
 refine EndW.fn ?_ ?_ <;> simp only [sx4, xK, sevalprocAttr] <;> (try simp) <;> (try omega)
def badW (s : ByteArray) : Bool := !isWd s
theorem part1_s (s : ByteArray) : Ctr Tryz.prog 134 [(.v (.string (s)))] (fun rr => rr = ⟨(.v (.bool (badW s))), []⟩) := by
 refine Ctr.of (rs := [.tmp 2]) Tok true Tryz.func134 rfl rfl rfl rfl (by simp [ofDL]) (fun w0 kp => ?_)
 simp only [↓sx0, xE, sevalprocAttr]
 refine CallI.fn (isWordT_s s) (by simp only [sx3, xR, sevalprocAttr] <;> (try simp) <;> (try rfl)) ?_
 simp only [↓sx0, xE, sevalprocAttr]
 refine EndW.fn ?_ ?_ <;> simp only [sx4, xK, sevalprocAttr] <;> (try simp [badW]) <;> (try omega)
/-- the error of a part. -/
def partErr (p : Pt) : Int :=
 if 1 ≤ p.kind ∧ p.kind ≤ 3 then (if p.words.length = 0 then 10 else if 100 < p.words.length then 8 else if p.words.any badW = true ∨ isMk (p.words.headD hash) = true then 3 else 0) else 15
theorem headD_get {α : Type} {l : List α} {d : α} (h : 0 < l.length) : l.headD d = l[0] := by
 cases l with
 | nil => simp at h
 | cons x l => rfl
theorem checkPart_s (b : Bool) (p : Pt) : Ctr Tryz.prog 101 [.agg [(.v (.int .i64 p.kind)), .sl b 1 (p.words.map eS)]] (fun rr => rr = ⟨(.v (.int .i64 (partErr p))), []⟩) := by
 refine Ctr.of (rs := [.tmp 2]) Tok true Tryz.func101 rfl rfl rfl rfl (by simp [ofDL]) (fun w0 kp => ?_)
 simp only [↓sx0, xE, sevalprocAttr]
 refine CallI.fn (withinT_s p.kind 1 3) (by simp only [sx3, xR, sevalprocAttr] <;> (try simp) <;> (try rfl)) ?_
 simp only [↓sx0, xE, sevalprocAttr]
 refine BrW.of (fun hk => ?_) (fun hk => ?_)
 ·have hk : 1 ≤ p.kind ∧ p.kind ≤ 3 := by simpa using hk
  simp only [↓sx0, xE, sevalprocAttr]
  refine BrW.dec (fun h0 => ?_) (fun h0 => ?_)
  ·simp only [↓sx0, xE, sevalprocAttr]
   rw [show partErr p = 10 by rw [partErr, if_pos hk, if_pos (by omega)]]
   refine EndW.fn ?_ ?_ <;> simp only [sx4, xK, sevalprocAttr] <;> (try simp) <;> (try omega)
  ·simp only [↓sx0, xE, sevalprocAttr]
   refine BrW.dec (fun h8 => ?_) (fun h8 => ?_)
   ·simp only [↓sx0, xE, sevalprocAttr]
    rw [show partErr p = 8 by rw [partErr, if_pos hk, if_neg (by omega), if_pos (by omega)]]
    refine EndW.fn ?_ ?_ <;> simp only [sx4, xK, sevalprocAttr] <;> (try simp) <;> (try omega)
   ·simp only [↓sx0, xE, sevalprocAttr]
    have hpe : partErr p = if p.words.any badW = true ∨ isMk (p.words.headD hash) = true then 3 else 0 := by rw [partErr, if_pos hk, if_neg (by omega), if_neg (by omega)]
    have hpos : 0 < p.words.length := by omega
    refine CallI.fn (containsS_s b 134 badW p.words (by omega) (fun x _ => part1_s x)) (by simp only [sx3, xR, sevalprocAttr] <;> (try simp) <;> (try rfl)) ?_
    simp only [↓sx0, xE, sevalprocAttr]
    refine BrW.of (fun hb => ?_) (fun hb => ?_)
    ·simp only [↓sx0, xE, sevalprocAttr]
     rw [hpe, if_pos (.inl hb)]
     refine EndW.fn ?_ ?_ <;> simp only [sx4, xK, sevalprocAttr] <;> (try simp) <;> (try omega)
    ·simp only [↓sx0, xE, sevalprocAttr]
     refine IxW.nat (j := 0) hpos ?_
     simp only [↓sx0, xE, sevalprocAttr]
     refine CallI.fn (isMark_s p.words[0]) (by simp only [sx3, xR, sevalprocAttr] <;> (try simp) <;> (try rfl)) ?_
     simp only [↓sx0, xE, sevalprocAttr]
     refine BrW.of (fun hm => ?_) (fun hm => ?_)
     ·simp only [↓sx0, xE, sevalprocAttr]
      rw [hpe, if_pos (.inr (by rw [headD_get hpos]; exact hm))]
      refine EndW.fn ?_ ?_ <;> simp only [sx4, xK, sevalprocAttr] <;> (try simp) <;> (try omega)
     ·simp only [↓sx0, xE, sevalprocAttr]
      rw [hpe, if_neg (by rw [headD_get hpos, hb, hm]; simp)]
      refine EndW.fn ?_ ?_ <;> simp only [sx4, xK, sevalprocAttr] <;> (try simp) <;> (try omega)
 ·have hk : ¬ (1 ≤ p.kind ∧ p.kind ≤ 3) := by simpa using hk
  simp only [↓sx0, xE, sevalprocAttr]
  rw [show partErr p = 15 by rw [partErr, if_neg hk]]
  refine EndW.fn ?_ ?_ <;> simp only [sx4, xK, sevalprocAttr] <;> (try simp) <;> (try omega)
/-- the number and the error of the first part that is wrong. -/
def partsE : Nat → List Pt → Int × Int
 | _, [] => (0, 0)
 | k, p :: l => if partErr p = 0 then partsE (k + 1) l else ((k : Int), partErr p)
def partsErr (l : List Pt) : Int × Int := if 60 < l.length then (0, 8) else partsE 0 l
theorem partsE_at {l : List Pt} {k : Nat} (h : k < l.length) (ht : partsE k (l.drop k) = partsE 0 l) : partsE 0 l = if partErr l[k] = 0 then partsE (k + 1) (l.drop (k + 1)) else ((k : Int), partErr l[k]) := by
 rw [← ht, List.drop_eq_getElem_cons h]
 rfl
theorem checkParts_s (b b2 : Bool) (l : List Pt) : Ctr Tryz.prog 80 [.sl b 2 (l.map (eP b2))] (fun rr => rr = ⟨.tup [(.v (.int .i64 ((partsErr l).1))), (.v (.int .i64 ((partsErr l).2)))], []⟩) := by
 refine Ctr.of (rs := [.tmp 2, .tmp 3]) Tok true Tryz.func80 rfl rfl rfl rfl (by simp [ofDL]) (fun w0 kp => ?_)
 simp only [↓sx0, xE, sevalprocAttr]
 refine BrW.dec (fun h1 => ?_) (fun h1 => ?_)
 ·simp only [↓sx0, xE, sevalprocAttr]
  rw [show partsErr l = (0, 8) by rw [partsErr, if_pos (by omega)]]
  refine EndW.fn ?_ ?_ <;> simp only [sx4, xK, sevalprocAttr] <;> (try simp) <;> (try omega)
 ·simp only [↓sx0, xE, sevalprocAttr]
  rw [show partsErr l = partsE 0 l by rw [partsErr, if_neg (by omega)]]
  refine LoopW.comp [10, 11, 12] (by simp only [sx2, xR, sevalprocAttr] <;> (try simp) <;> (try omega)) ?_
  simp only [sx2, sxR, sevalprocAttr]
  refine LoopW.up Tok (fun k : Nat => [(12, (.v (.int .i64 k)))]) (fun k => []) (fun k => []) (fun k => []) (fun k => k ≤ l.length ∧ partsE k (l.drop k) = partsE 0 l) (fun k => l.length - k) (0) (by simp only [sx2, xR, sevalprocAttr] <;> (try simp) <;> (try omega)) ?_ ?_
  ·exact ⟨by omega, rfl⟩
  rintro k ⟨hk, ht⟩
  simp only [↓sx0, xE, sevalprocAttr]
  refine BrW.dec (fun hlt => ?_) (fun hlt => ?_)
  ·simp only [↓sx0, xE, sevalprocAttr]
   have hlt : k < l.length := by omega
   have he := partsE_at hlt ht
   refine IxW.nat hlt ?_
   simp only [↓sx0, xE, sevalprocAttr]
   refine CallI.fn (checkPart_s b2 l[k]) (by simp only [sx3, xR, sevalprocAttr] <;> (try simp) <;> (try rfl)) ?_
   simp only [↓sx0, xE, sevalprocAttr]
   refine BrW.dec (fun hp => ?_) (fun hp => ?_)
   ·simp only [↓sx0, xE, sevalprocAttr]
    rw [if_neg hp] at he
    rw [he]
    refine EndW.fn ?_ ?_ <;> simp only [sx4, xK, sevalprocAttr] <;> (try simp) <;> (try omega)
   ·simp only [↓sx0, xE, sevalprocAttr]
    rw [if_pos (Decidable.not_not.1 hp)] at he
    repeat ((with_reducible refine Vc.go ?_ fun _ => ?_); (focus (first | omega | (simp only [InK]; omega) | (simp [InK] <;> omega))); simp only [↓sx0, xE, sevalprocAttr])
    refine ⟨k + 1, StLe.auto (by simp only [sx2, xR, sevalprocAttr] <;> (try simp) <;> (try omega)), ?_, ?_⟩
    ·exact ⟨hlt, he.symm⟩
    ·omega
  ·simp only [↓sx0, xE, sevalprocAttr]
   have hke : k = l.length := by omega
   subst hke
   rw [List.drop_length] at ht
   rw [← ht]
   refine EndW.fn ?_ ?_ <;> simp only [sx4, xK, sevalprocAttr] <;> (try simp [partsE]) <;> (try omega)
theorem checkCopy_s (b b2 : Bool) (l : List Pt) : Ctr Tryz.prog 50 [.sl b 2 (l.map (eP b2))] (fun rr => rr = ⟨(.v (.int .i64 ((partsErr l).2))), []⟩) := by
 refine Ctr.of (rs := [.tmp 2]) Tok true Tryz.func50 rfl rfl rfl rfl (by simp [ofDL]) (fun w0 kp => ?_)
 simp only [↓sx0, xE, sevalprocAttr]
 refine CallI.fn (checkParts_s b b2 l) (by simp only [sx3, xR, sevalprocAttr] <;> (try simp) <;> (try rfl)) ?_
 simp only [↓sx0, xE, sevalprocAttr]
 refine EndW.fn ?_ ?_ <;> simp only [sx4, xK, sevalprocAttr] <;> (try simp) <;> (try omega)
end Go.Proofs.YtmbemlmkfoblhaaGreatDoor
/-
 Chapter 8, walks: marks are right.
-/
namespace Go.Proofs.YtmbemlmkfoblhaaGreatDoor
open Go Go.Vx
set_option maxRecDepth 20000
def inR (m : Mk) : Bool := decide (0 ≤ m.part ∧ m.part ≤ 59) && decide (0 ≤ m.word ∧ m.word ≤ 100)
theorem inRange_s (m : Mk) : Ctr Tryz.prog 36 [mV m] (fun rr => rr = ⟨(.v (.bool (inR m))), []⟩) := by
 refine Ctr.of (rs := [.tmp 2]) Tok true Tryz.func36 rfl rfl rfl rfl (by simp [ofDL]) (fun w0 kp => ?_)
 simp only [↓sx0, xE, sevalprocAttr]
 refine CallI.fn (within_s m.part 0 59) (by simp only [sx3, xR, sevalprocAttr] <;> (try simp) <;> (try rfl)) ?_
 simp only [↓sx0, xE, sevalprocAttr]
 refine BrW.of (fun h => ?_) (fun h => ?_)
 ·simp only [↓sx0, xE, sevalprocAttr]
  refine CallI.fn (within_s m.word 0 100) (by simp only [sx3, xR, sevalprocAttr] <;> (try simp) <;> (try rfl)) ?_
  simp only [↓sx0, xE, sevalprocAttr]
  have : inR m = decide (0 ≤ m.word ∧ m.word ≤ 100) := by rw [inR, h, Bool.true_and]
  refine EndW.fn ?_ ?_ <;> simp only [sx4, xK, sevalprocAttr] <;> (try simp [this]) <;> (try omega)
 ·simp only [↓sx0, xE, sevalprocAttr]
  have : inR m = false := by rw [inR, h, Bool.false_and]
  refine EndW.fn ?_ ?_ <;> simp only [sx4, xK, sevalprocAttr] <;> (try simp [this]) <;> (try omega)
def ptsB (m : Mk) : Bool := decide (m.mark = 5) || decide (m.mark = 6)
theorem parts_s (m : Mk) : Ctr Tryz.prog 39 [mV m] (fun rr => rr = ⟨(.v (.bool (ptsB m))), []⟩) := by
 refine Ctr.of (rs := [.tmp 2]) Tok true Tryz.func39 rfl rfl rfl rfl (by simp [ofDL]) (fun w0 kp => ?_)
 simp only [↓sx0, xE, sevalprocAttr]
 refine BrW.dec (fun h => ?_) (fun h => ?_)
 ·simp only [↓sx0, xE, sevalprocAttr]
  have : ptsB m = true := by simp [ptsB, h]
  refine EndW.fn ?_ ?_ <;> simp only [sx4, xK, sevalprocAttr] <;> (try simp [this]) <;> (try omega)
 ·simp only [↓sx0, xE, sevalprocAttr]
  have : ptsB m = decide (m.mark = 6) := by simp [ptsB, h]
  refine EndW.fn ?_ ?_ <;> simp only [sx4, xK, sevalprocAttr] <;> (try simp [this]) <;> (try omega)
theorem toldBy_s (m : Mk) : Ctr Tryz.prog 37 [mV m] (fun rr => rr = ⟨.agg [(.v (.string (m.old))), (.v (.string (m.new))), (.v (.int .i64 m.was)), (.v (.int .i64 m.kind))], []⟩) := by
 refine Ctr.of (rs := [.cell 2 90]) Tok true Tryz.func37 rfl rfl rfl rfl (by simp [ofDL]) (fun w0 kp => ?_)
 simp only [↓sx0, xE, sevalprocAttr]
 refine EndW.fn ?_ ?_ <;> simp only [sx4, xK, sevalprocAttr] <;> (try simp) <;> (try omega)
def em : ByteArray := ⟨#[]⟩
def wantB (mark : Int) (o n : ByteArray) (w k : Int) : Bool :=
 if mark = 1 then isWd o && decide (n = em ∧ w = 0 ∧ k = 0)
 else if mark = 2 then isWd n && decide (o = em ∧ w = 0 ∧ k = 0)
 else if mark = 3 then (isWd o && isWd n && decide (o ≠ n)) && decide (w = 0 ∧ k = 0)
 else if mark = 5 ∨ mark = 6 then decide (1 ≤ k ∧ k ≤ 3) && decide (o = em ∧ n = em ∧ w = 0)
 else if mark = 7 then (decide (1 ≤ w ∧ w ≤ 3) && decide (1 ≤ k ∧ k ≤ 3) && decide (w ≠ k)) && decide (o = em ∧ n = em)
 else decide (o = em ∧ n = em ∧ w = 0 ∧ k = 0)
set_option maxHeartbeats 4000000 in
theorem fits_s (mark : Int) (o n : ByteArray) (w k : Int) (ho : o.size ≤ 1000000000) (hn : n.size ≤ 1000000000) : Ctr Tryz.prog 38 [.agg [(.v (.string (o))), (.v (.string (n))), (.v (.int .i64 w)), (.v (.int .i64 k))], (.v (.int .i64 mark))] (fun rr => rr = ⟨(.v (.bool (wantB mark o n w k))), []⟩) := by
 refine Ctr.of (rs := [.tmp 4]) Tok true Tryz.func38 rfl rfl rfl rfl (by simp [ofDL]) (fun w0 kp => ?_)
 simp only [↓sx0, xE, sevalprocAttr]
 refine BrW.dec (fun h1 => ?_) (fun h1 => ?_)
 ·have hw : wantB mark o n w k = (isWd o && decide (n = em ∧ w = 0 ∧ k = 0)) := by rw [wantB, if_pos h1]
  rw [hw]
  simp only [↓sx0, xE, sevalprocAttr]
  refine DrawW.plan Tok mixed (.q 0 <| .q 1 <| .q 2 <| .q 3 <| .q 5 <| .e 4 [1] <| .e 6 [] <| .q 7 <| .done) (by kernel_rfl) (by kernel_rfl) ?_
  simp only [↓sx0, xE, sevalprocAttr]
  refine CallI.fn (isWord_s o ho) (by simp only [sx3, xR, sevalprocAttr] <;> (try simp) <;> (try rfl)) ?_
  simp only [↓sx0, xE, sevalprocAttr]
  refine BrW.of (fun hb => ?_) (fun hb => ?_)
  ·simp only [↓sx0, xE, sevalprocAttr]
   rw [show (isWd o && decide (n = em ∧ w = 0 ∧ k = 0)) = decide ([Sc.s o, Sc.s n, Sc.i w, Sc.i k] = [Sc.s o, Sc.s ⟨#[]⟩, Sc.i 0, Sc.i 0]) by rw [hb, Bool.eq_iff_iff]; simp [em]; exact decide_eq_true_iff]
   refine EndW.fn ?_ ?_ <;> simp only [sx4, xK, sevalprocAttr] <;> (try simp) <;> (try omega)
  ·simp only [↓sx0, xE, sevalprocAttr]
   rw [hb]
   refine EndW.fn ?_ ?_ <;> simp only [sx4, xK, sevalprocAttr] <;> (try simp) <;> (try omega)
 ·simp only [↓sx0, xE, sevalprocAttr]
  refine BrW.dec (fun h2 => ?_) (fun h2 => ?_)
  ·have hw : wantB mark o n w k = (isWd n && decide (o = em ∧ w = 0 ∧ k = 0)) := by rw [wantB, if_neg h1, if_pos h2]
   rw [hw]
   simp only [↓sx0, xE, sevalprocAttr]
   refine DrawW.plan Tok mixed (.q 0 <| .q 1 <| .q 2 <| .q 3 <| .q 5 <| .e 4 [1] <| .e 6 [] <| .q 7 <| .done) (by kernel_rfl) (by kernel_rfl) ?_
   simp only [↓sx0, xE, sevalprocAttr]
   refine CallI.fn (isWord_s n hn) (by simp only [sx3, xR, sevalprocAttr] <;> (try simp) <;> (try rfl)) ?_
   simp only [↓sx0, xE, sevalprocAttr]
   refine BrW.of (fun hb => ?_) (fun hb => ?_)
   ·simp only [↓sx0, xE, sevalprocAttr]
    rw [show (isWd n && decide (o = em ∧ w = 0 ∧ k = 0)) = decide ([Sc.s o, Sc.s n, Sc.i w, Sc.i k] = [Sc.s ⟨#[]⟩, Sc.s n, Sc.i 0, Sc.i 0]) by rw [hb, Bool.eq_iff_iff]; simp [em]; exact decide_eq_true_iff]
    refine EndW.fn ?_ ?_ <;> simp only [sx4, xK, sevalprocAttr] <;> (try simp) <;> (try omega)
   ·simp only [↓sx0, xE, sevalprocAttr]
    rw [hb]
    refine EndW.fn ?_ ?_ <;> simp only [sx4, xK, sevalprocAttr] <;> (try simp) <;> (try omega)
  ·simp only [↓sx0, xE, sevalprocAttr]
   refine BrW.dec (fun h3 => ?_) (fun h3 => ?_)
   ·have hw : wantB mark o n w k = ((isWd o && isWd n && decide (o ≠ n)) && decide (w = 0 ∧ k = 0)) := by rw [wantB, if_neg h1, if_neg h2, if_pos h3]
    rw [hw]
    simp only [↓sx0, xE, sevalprocAttr]
    refine DrawW.plan Tok mixed (.q 0 <| .q 1 <| .q 2 <| .q 3 <| .q 4 <| .q 5 <| .q 19 <| .e 6 [1, 3] <| .q 7 <| .q 8 <| .q 9 <| .e 10 [1, 3] <| .q 11 <| .q 12 <| .q 13 <| .q 14 <| .q 15 <| .q 16 <| .q 17 <| .q 18 <| .e 20 [3, 14, 16] <| .q 21 <| .e 22 [14, 16] <| .q 23 <| .done) (by kernel_rfl) (by kernel_rfl) ?_
    simp only [↓sx0, xE, sevalprocAttr]
    refine CallI.fn (isWord_s o ho) (by simp only [sx3, xR, sevalprocAttr] <;> (try simp) <;> (try rfl)) ?_
    simp only [↓sx0, xE, sevalprocAttr]
    refine BrW.of (fun hb => ?_) (fun hb => ?_)
    ·simp only [↓sx0, xE, sevalprocAttr]
     repeat ((with_reducible refine BrW.tt hb ?_); simp only [↓sx0, xE, sevalprocAttr])
     refine CallI.fn (isWord_s n hn) (by simp only [sx3, xR, sevalprocAttr] <;> (try simp) <;> (try rfl)) ?_
     simp only [↓sx0, xE, sevalprocAttr]
     refine BrW.of (fun hc => ?_) (fun hc => ?_)
     ·simp only [↓sx0, xE, sevalprocAttr]
      repeat ((with_reducible refine BrW.tt hc ?_); simp only [↓sx0, xE, sevalprocAttr])
      refine BrW.dec (fun hd => ?_) (fun hd => ?_)
      ·simp only [↓sx0, xE, sevalprocAttr]
       rw [show ((isWd o && isWd n && decide (o ≠ n)) && decide (w = 0 ∧ k = 0)) = decide ([Sc.s o, Sc.s n, Sc.i w, Sc.i k] = [Sc.s o, Sc.s n, Sc.i 0, Sc.i 0]) by rw [hb, hc, decide_eq_true hd]; simp]
       refine EndW.fn ?_ ?_ <;> simp only [sx4, xK, sevalprocAttr] <;> (try simp) <;> (try omega)
      ·simp only [↓sx0, xE, sevalprocAttr]
       rw [hb, hc, decide_eq_false hd]
       refine EndW.fn ?_ ?_ <;> simp only [sx4, xK, sevalprocAttr] <;> (try simp) <;> (try omega)
     ·simp only [↓sx0, xE, sevalprocAttr]
      repeat ((with_reducible refine BrW.ff hc ?_); simp only [↓sx0, xE, sevalprocAttr])
      rw [hb, hc]
      refine EndW.fn ?_ ?_ <;> simp only [sx4, xK, sevalprocAttr] <;> (try simp) <;> (try omega)
    ·simp only [↓sx0, xE, sevalprocAttr]
     repeat ((with_reducible refine BrW.ff hb ?_); simp only [↓sx0, xE, sevalprocAttr])
     rw [hb]
     refine EndW.fn ?_ ?_ <;> simp only [sx4, xK, sevalprocAttr] <;> (try simp) <;> (try omega)
   ·simp only [↓sx0, xE, sevalprocAttr]
    have bj : mark = 5 ∨ mark = 6 → wantB mark o n w k = (decide (1 ≤ k ∧ k ≤ 3) && decide (o = em ∧ n = em ∧ w = 0)) := fun h => by rw [wantB, if_neg h1, if_neg h2, if_neg h3, if_pos h]
    refine BrW.dec (fun h5 => ?_) (fun h5 => ?_)
    ·rw [bj (.inl h5)]
     simp only [↓sx0, xE, sevalprocAttr]
     refine BrW.yes h5 ?_
     simp only [↓sx0, xE, sevalprocAttr]
     refine DrawW.plan Tok mixed (.q 0 <| .q 1 <| .q 2 <| .q 3 <| .q 5 <| .e 4 [1] <| .e 6 [] <| .q 7 <| .done) (by kernel_rfl) (by kernel_rfl) ?_
     simp only [↓sx0, xE, sevalprocAttr]
     refine CallI.fn (isKind_s k) (by simp only [sx3, xR, sevalprocAttr] <;> (try simp) <;> (try rfl)) ?_
     simp only [↓sx0, xE, sevalprocAttr]
     refine BrW.of (fun hb => ?_) (fun hb => ?_)
     ·simp only [↓sx0, xE, sevalprocAttr]
      rw [show (decide (1 ≤ k ∧ k ≤ 3) && decide (o = em ∧ n = em ∧ w = 0)) = decide ([Sc.s o, Sc.s n, Sc.i w, Sc.i k] = [Sc.s ⟨#[]⟩, Sc.s ⟨#[]⟩, Sc.i 0, Sc.i k]) by rw [hb, Bool.eq_iff_iff]; simp [em]; exact decide_eq_true_iff]
      refine EndW.fn ?_ ?_ <;> simp only [sx4, xK, sevalprocAttr] <;> (try simp) <;> (try omega)
     ·simp only [↓sx0, xE, sevalprocAttr]
      rw [hb]
      refine EndW.fn ?_ ?_ <;> simp only [sx4, xK, sevalprocAttr] <;> (try simp) <;> (try omega)
    ·simp only [↓sx0, xE, sevalprocAttr]
     refine BrW.dec (fun h6 => ?_) (fun h6 => ?_)
     ·rw [bj (.inr h6)]
      simp only [↓sx0, xE, sevalprocAttr]
      refine DrawW.plan Tok mixed (.q 0 <| .q 1 <| .q 2 <| .q 3 <| .q 5 <| .e 4 [1] <| .e 6 [] <| .q 7 <| .done) (by kernel_rfl) (by kernel_rfl) ?_
      simp only [↓sx0, xE, sevalprocAttr]
      refine CallI.fn (isKind_s k) (by simp only [sx3, xR, sevalprocAttr] <;> (try simp) <;> (try rfl)) ?_
      simp only [↓sx0, xE, sevalprocAttr]
      refine BrW.of (fun hb => ?_) (fun hb => ?_)
      ·simp only [↓sx0, xE, sevalprocAttr]
       rw [show (decide (1 ≤ k ∧ k ≤ 3) && decide (o = em ∧ n = em ∧ w = 0)) = decide ([Sc.s o, Sc.s n, Sc.i w, Sc.i k] = [Sc.s ⟨#[]⟩, Sc.s ⟨#[]⟩, Sc.i 0, Sc.i k]) by rw [hb, Bool.eq_iff_iff]; simp [em]; exact decide_eq_true_iff]
       refine EndW.fn ?_ ?_ <;> simp only [sx4, xK, sevalprocAttr] <;> (try simp) <;> (try omega)
      ·simp only [↓sx0, xE, sevalprocAttr]
       rw [hb]
       refine EndW.fn ?_ ?_ <;> simp only [sx4, xK, sevalprocAttr] <;> (try simp) <;> (try omega)
     ·simp only [↓sx0, xE, sevalprocAttr]
      have h56 : ¬ (mark = 5 ∨ mark = 6) := fun h => h.elim h5 h6
      refine BrW.dec (fun h7 => ?_) (fun h7 => ?_)
      ·have hw : wantB mark o n w k = ((decide (1 ≤ w ∧ w ≤ 3) && decide (1 ≤ k ∧ k ≤ 3) && decide (w ≠ k)) && decide (o = em ∧ n = em)) := by rw [wantB, if_neg h1, if_neg h2, if_neg h3, if_neg h56, if_pos h7]
       rw [hw]
       simp only [↓sx0, xE, sevalprocAttr]
       refine DrawW.plan Tok mixed (.q 0 <| .q 1 <| .q 2 <| .q 3 <| .q 4 <| .q 5 <| .q 19 <| .e 6 [1, 3] <| .q 7 <| .q 8 <| .q 9 <| .e 10 [1, 3] <| .q 11 <| .q 12 <| .q 13 <| .q 14 <| .q 15 <| .q 16 <| .q 17 <| .q 18 <| .e 20 [3, 14, 16] <| .q 21 <| .e 22 [14, 16] <| .q 23 <| .done) (by kernel_rfl) (by kernel_rfl) ?_
       simp only [↓sx0, xE, sevalprocAttr]
       refine CallI.fn (isKind_s w) (by simp only [sx3, xR, sevalprocAttr] <;> (try simp) <;> (try rfl)) ?_
       simp only [↓sx0, xE, sevalprocAttr]
       refine BrW.of (fun hb => ?_) (fun hb => ?_)
       ·simp only [↓sx0, xE, sevalprocAttr]
        repeat ((with_reducible refine BrW.tt hb ?_); simp only [↓sx0, xE, sevalprocAttr])
        refine CallI.fn (isKind_s k) (by simp only [sx3, xR, sevalprocAttr] <;> (try simp) <;> (try rfl)) ?_
        simp only [↓sx0, xE, sevalprocAttr]
        refine BrW.of (fun hc => ?_) (fun hc => ?_)
        ·simp only [↓sx0, xE, sevalprocAttr]
         repeat ((with_reducible refine BrW.tt hc ?_); simp only [↓sx0, xE, sevalprocAttr])
         refine BrW.dec (fun hd => ?_) (fun hd => ?_)
         ·simp only [↓sx0, xE, sevalprocAttr]
          rw [show ((decide (1 ≤ w ∧ w ≤ 3) && decide (1 ≤ k ∧ k ≤ 3) && decide (w ≠ k)) && decide (o = em ∧ n = em)) = decide ([Sc.s o, Sc.s n, Sc.i w, Sc.i k] = [Sc.s ⟨#[]⟩, Sc.s ⟨#[]⟩, Sc.i w, Sc.i k]) by rw [hb, hc, decide_eq_true hd, Bool.eq_iff_iff]; simp [em]; exact decide_eq_true_iff]
          refine EndW.fn ?_ ?_ <;> simp only [sx4, xK, sevalprocAttr] <;> (try simp) <;> (try omega)
         ·simp only [↓sx0, xE, sevalprocAttr]
          rw [hb, hc, decide_eq_false hd]
          refine EndW.fn ?_ ?_ <;> simp only [sx4, xK, sevalprocAttr] <;> (try simp) <;> (try omega)
        ·simp only [↓sx0, xE, sevalprocAttr]
         repeat ((with_reducible refine BrW.ff hc ?_); simp only [↓sx0, xE, sevalprocAttr])
         rw [hb, hc]
         refine EndW.fn ?_ ?_ <;> simp only [sx4, xK, sevalprocAttr] <;> (try simp) <;> (try omega)
       ·simp only [↓sx0, xE, sevalprocAttr]
        repeat ((with_reducible refine BrW.ff hb ?_); simp only [↓sx0, xE, sevalprocAttr])
        rw [hb]
        refine EndW.fn ?_ ?_ <;> simp only [sx4, xK, sevalprocAttr] <;> (try simp) <;> (try omega)
      ·have hw : wantB mark o n w k = decide ([Sc.s o, Sc.s n, Sc.i w, Sc.i k] = [Sc.s ⟨#[]⟩, Sc.s ⟨#[]⟩, Sc.i 0, Sc.i 0]) := by
        rw [wantB, if_neg h1, if_neg h2, if_neg h3, if_neg h56, if_neg h7, Bool.eq_iff_iff]; simp [em]; exact decide_eq_true_iff
       rw [hw]
       simp only [↓sx0, xE, sevalprocAttr]
       refine EndW.fn ?_ ?_ <;> simp only [sx4, xK, sevalprocAttr] <;> (try simp) <;> (try omega)
/-- the error of a mark. -/
def mkErr (m : Mk) : Int :=
 if 1 ≤ m.mark ∧ m.mark ≤ 7 then (if inR m = true then (if wantB m.mark m.old m.new m.was m.kind = true ∧ ¬ (ptsB m = true ∧ m.word = 0) ∧ ¬ (m.mark = 7 ∧ m.word ≠ 0) then 0 else 3) else 2) else 15
def MkSz (m : Mk) : Prop := m.old.size ≤ 1000000000 ∧ m.new.size ≤ 1000000000
set_option maxHeartbeats 4000000 in
theorem checkMark_s (m : Mk) (hz : MkSz m) : Ctr Tryz.prog 10 [mV m] (fun rr => rr = ⟨(.v (.int .i64 (mkErr m))), []⟩) := by
 refine Ctr.of (rs := [.tmp 2]) Tok true Tryz.func10 rfl rfl rfl rfl (by simp [ofDL]) (fun w0 kp => ?_)
 simp only [↓sx0, xE, sevalprocAttr]
 refine CallI.fn (within_s m.mark 1 7) (by simp only [sx3, xR, sevalprocAttr] <;> (try simp) <;> (try rfl)) ?_
 simp only [↓sx0, xE, sevalprocAttr]
 refine BrW.of (fun hk => ?_) (fun hk => ?_)
 ·have hk : 1 ≤ m.mark ∧ m.mark ≤ 7 := by simpa using hk
  simp only [↓sx0, xE, sevalprocAttr]
  refine CallI.fn (inRange_s m) (by simp only [sx3, xR, sevalprocAttr] <;> (try simp) <;> (try rfl)) ?_
  simp only [↓sx0, xE, sevalprocAttr]
  refine BrW.of (fun hr => ?_) (fun hr => ?_)
  ·have he : mkErr m = if wantB m.mark m.old m.new m.was m.kind = true ∧ ¬ (ptsB m = true ∧ m.word = 0) ∧ ¬ (m.mark = 7 ∧ m.word ≠ 0) then 0 else 3 := by rw [mkErr, if_pos hk, if_pos hr]
   rw [he]
   simp only [↓sx0, xE, sevalprocAttr]
   refine DrawW.plan Tok mixed (.q 0 <| .q 2 <| .q 3 <| .e 1 [3] <| .e 4 [] <| .q 5 <| .q 6 <| .q 7 <| .e 8 [] <| .q 9 <| .q 10 <| .q 11 <| .q 12 <| .q 13 <| .q 14 <| .q 15 <| .q 16 <| .q 17 <| .q 18 <| .q 19 <| .q 20 <| .q 21 <| .q 22 <| .q 23 <| .q 24 <| .q 25 <| .done) (by kernel_rfl) (by kernel_rfl) ?_
   simp only [↓sx0, xE, sevalprocAttr]
   refine CallI.fn (toldBy_s m) (by simp only [sx3, xR, sevalprocAttr] <;> (try simp) <;> (try rfl)) ?_
   simp only [↓sx0, xE, sevalprocAttr]
   refine CallI.fn (fits_s m.mark m.old m.new m.was m.kind hz.1 hz.2) (by simp only [sx3, xR, sevalprocAttr] <;> (try simp) <;> (try rfl)) ?_
   simp only [↓sx0, xE, sevalprocAttr]
   refine BrW.of (fun hf => ?_) (fun hf => ?_)
   ·simp only [↓sx0, xE, sevalprocAttr]
    repeat ((with_reducible refine BrW.tt hf ?_); simp only [↓sx0, xE, sevalprocAttr])
    refine CallI.fn (parts_s m) (by simp only [sx3, xR, sevalprocAttr] <;> (try simp) <;> (try rfl)) ?_
    simp only [↓sx0, xE, sevalprocAttr]
    refine BrW.of (fun hp => ?_) (fun hp => ?_)
    ·simp only [↓sx0, xE, sevalprocAttr]
     have h7 : ¬ m.mark = 7 := fun h => by rw [ptsB, h] at hp; simp at hp
     repeat ((with_reducible refine BrW.tt hp ?_); simp only [↓sx0, xE, sevalprocAttr])
     refine BrW.dec (fun hw0 => ?_) (fun hw0 => ?_)
     ·simp only [↓sx0, xE, sevalprocAttr]
      repeat ((with_reducible refine BrW.yes hw0 ?_); simp only [↓sx0, xE, sevalprocAttr])
      rw [if_neg fun h => h.2.1 ⟨hp, hw0⟩]
      refine EndW.fn ?_ ?_ <;> simp only [sx4, xK, sevalprocAttr] <;> (try simp) <;> (try omega)
     ·simp only [↓sx0, xE, sevalprocAttr]
      repeat ((with_reducible refine BrW.no hw0 ?_); simp only [↓sx0, xE, sevalprocAttr])
      repeat ((with_reducible refine BrW.no h7 ?_); simp only [↓sx0, xE, sevalprocAttr])
      rw [if_pos ⟨hf, fun h => hw0 h.2, fun h => h7 h.1⟩]
      refine EndW.fn ?_ ?_ <;> simp only [sx4, xK, sevalprocAttr] <;> (try simp) <;> (try omega)
    ·simp only [↓sx0, xE, sevalprocAttr]
     repeat ((with_reducible refine BrW.ff hp ?_); simp only [↓sx0, xE, sevalprocAttr])
     refine BrW.dec (fun h7 => ?_) (fun h7 => ?_)
     ·simp only [↓sx0, xE, sevalprocAttr]
      repeat ((with_reducible refine BrW.yes h7 ?_); simp only [↓sx0, xE, sevalprocAttr])
      refine BrW.dec (fun hw0 => ?_) (fun hw0 => ?_)
      ·simp only [↓sx0, xE, sevalprocAttr]
       rw [if_neg fun h => h.2.2 ⟨h7, hw0⟩]
       refine EndW.fn ?_ ?_ <;> simp only [sx4, xK, sevalprocAttr] <;> (try simp) <;> (try omega)
      ·simp only [↓sx0, xE, sevalprocAttr]
       rw [if_pos ⟨hf, fun h => by rw [hp] at h; simp at h, fun h => hw0 h.2⟩]
       refine EndW.fn ?_ ?_ <;> simp only [sx4, xK, sevalprocAttr] <;> (try simp) <;> (try omega)
     ·simp only [↓sx0, xE, sevalprocAttr]
      repeat ((with_reducible refine BrW.no h7 ?_); simp only [↓sx0, xE, sevalprocAttr])
      rw [if_pos ⟨hf, fun h => by rw [hp] at h; simp at h, fun h => h7 h.1⟩]
      refine EndW.fn ?_ ?_ <;> simp only [sx4, xK, sevalprocAttr] <;> (try simp) <;> (try omega)
   ·simp only [↓sx0, xE, sevalprocAttr]
    repeat ((with_reducible refine BrW.ff hf ?_); simp only [↓sx0, xE, sevalprocAttr])
    rw [if_neg (by rw [hf]; simp)]
    refine EndW.fn ?_ ?_ <;> simp only [sx4, xK, sevalprocAttr] <;> (try simp) <;> (try omega)
  ·simp only [↓sx0, xE, sevalprocAttr]
   rw [show mkErr m = 2 by rw [mkErr, if_pos hk, if_neg (by simp [hr])]]
   refine EndW.fn ?_ ?_ <;> simp only [sx4, xK, sevalprocAttr] <;> (try simp) <;> (try omega)
 ·have hk : ¬ (1 ≤ m.mark ∧ m.mark ≤ 7) := by simpa using hk
  simp only [↓sx0, xE, sevalprocAttr]
  rw [show mkErr m = 15 by rw [mkErr, if_neg hk]]
  refine EndW.fn ?_ ?_ <;> simp only [sx4, xK, sevalprocAttr] <;> (try simp) <;> (try omega)
end Go.Proofs.YtmbemlmkfoblhaaGreatDoor
