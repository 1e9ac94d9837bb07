/-
 Chapter 9: numbers as texts, texts cut (the reference).
-/
import Derived.Test.YtfojggadhhaleaaGreatDoorVGA
import Derived.Test.YtfojggadhhaleaaGreatDoorVB9
namespace Go.Proofs.YtfojggadhhaleaaGreatDoor
open Go Go.Vx
set_option linter.unusedSimpArgs false
set_option linter.unusedVariables false
set_option maxRecDepth 20000
def bs (l : List UInt8) : ByteArray := ⟨l.toArray⟩
theorem bs_add (a b : List UInt8) : bs a ++ bs b = bs (a ++ b) := by
 apply ByteArray.ext
 simp [bs, ByteArray.data_append]
theorem bs_size (a : List UInt8) : (bs a).size = a.length := by simp [bs, ByteArray.size]
theorem bs_data (s : ByteArray) : bs s.data.toList = s := by cases s; rfl
theorem bs_toList (a : List UInt8) : (bs a).data.toList = a := by simp [bs]
theorem bs_inj {a b : List UInt8} : bs a = bs b ↔ a = b := ⟨fun h => by rw [← bs_toList a, h, bs_toList], fun h => by rw [h]⟩
theorem CvR.go {e : TypeId} {els : List (List D)} {K : SV → St → Prop} {st : St} (h : 0 < els.length) (z : ByteArray) (hz : els = bytesD z) (hk : K (.v (.string z)) st) : CvR (some (.own e 1 els)) K st ⟨⟩ := ⟨rfl, h, z, hz, hk⟩
theorem dec_len : ∀ (k u : Nat), u < 10 ^ (k + 1) → (Lib.decDigits u).length ≤ k + 1
 | 0, u, h => by rw [Lib.decDigits, dif_pos (by omega)]; simp
 | k + 1, u, h => by
  rw [Lib.decDigits]
  split
  ·simp
  ·have h10 : 10 ^ (k + 1 + 1) = 10 ^ (k + 1) * 10 := Nat.pow_succ 10 (k + 1)
   have := dec_len k (u / 10) (by omega)
   simp only [List.length_append, List.length_singleton]
   omega
theorem bs_nil : bs [] = ⟨#[]⟩ := rfl
theorem sizeD_s (n : Int) (h : -1000 ≤ n ∧ n ≤ 1000) : Ctr Tryz.prog 63 [(.v (.int .i64 n))] (fun rr => rr = ⟨(.v (.int .i64 ((n.natAbs : Int)))), []⟩) := by
 rw [show (n.natAbs : Int) = max n (-n) by omega]
 refine Ctr.of (rs := [.tmp 2]) Tok true Tryz.func63 rfl rfl rfl rfl (by simp [ofDL]) (fun w0 kp => ?_)
 simp only [↓sx0, sxE, encs, sevalprocAttr]
 repeat ((with_reducible refine Vc.go ?_ fun _ => ?_); (focus (first | omega | (simp only [InK]; omega) | (simp [InK]; done) | (simp [InK]; omega))); simp only [↓sx0, sxE, encs, sevalprocAttr])
 refine EndW.fn ?_ ?_ <;> simp only [sx4, encs, kpLL_map, sxR, sevalprocAttr] <;> (try simp) <;> (try omega)
structure DecS where
 m : Int
 suf : List UInt8
set_option maxHeartbeats 4000000 in
theorem decimal_s (n : Int) (h0 : -9223372036854775808 ≤ n) (h1 : n ≤ 9223372036854775807) : Ctr Tryz.prog 31 [(.v (.int .i64 n))] (fun rr => rr = ⟨(.v (.string (bs (Lib.itoa n)))), []⟩) := by
 refine Ctr.of (rs := [.tmp 2]) Tok true Tryz.func31 rfl rfl rfl rfl (by simp [ofDL]) (fun w0 kp => ?_)
 simp only [↓sx0, sxE, encs, sevalprocAttr]
 refine BrW.dec (fun hz => ?_) (fun hz => ?_)
 ·subst hz
  simp only [↓sx0, sxE, encs, sevalprocAttr]
  have : bs (Lib.itoa 0) = ⟨#[48]⟩ := by rw [Lib.itoa, if_neg (by decide), Lib.decDigits, dif_pos (by decide)]; rfl
  refine EndW.fn ?_ ?_ <;> simp only [sx4, encs, kpLL_map, sxR, sevalprocAttr] <;> (try simp [this]) <;> (try omega)
 ·have hl : (Lib.decDigits n.natAbs).length ≤ 20 := dec_len 19 _ (by omega)
  simp only [↓sx0, sxE, encs, sevalprocAttr]
  refine BrW.dec (fun hn => ?_) (fun hn => ?_)
  ·have hit : bs (Lib.itoa n) = ⟨#[45]⟩ ++ bs (Lib.decDigits n.natAbs) := by
    rw [show (⟨#[45]⟩ : ByteArray) = bs [45] from rfl, bs_add, Lib.itoa, if_pos hn]; rfl
   simp only [↓sx0, sxE, encs, sevalprocAttr]
   refine LoopW.comp [0, 3, 4] (by simp only [sx2, encs, sxR, sevalprocAttr] <;> (try simp) <;> (try omega)) ?_
   simp only [sx2, sxR, sevalprocAttr]
   refine LoopW.up Tok (fun s : DecS => [(0, (.v (.int .i64 s.m))), (3, (.v (.string (bs s.suf))))]) (fun s => []) (fun s => []) (fun s => []) (fun s => s.m.natAbs ≤ n.natAbs ∧ Lib.decDigits n.natAbs = (if s.m = 0 then [] else Lib.decDigits s.m.natAbs) ++ s.suf) (fun s => s.m.natAbs) (⟨n, []⟩) (by simp only [sx2, encs, sxR, sevalprocAttr] <;> (try simp [bs_nil, encs]) <;> (try omega)) ?_ ?_
   ·exact ⟨Nat.le_refl _, by rw [if_neg hz]; simp⟩
   rintro ⟨m, suf⟩ ⟨hm, hE⟩
   simp only at hm hE
   have hsl : suf.length ≤ 20 := by
    have := congrArg List.length hE
    rw [List.length_append] at this
    omega
   simp only [↓sx0, sxE, encs, sevalprocAttr]
   refine BrW.dec (fun hm0 => ?_) (fun hm0 => ?_)
   ·simp only [↓sx0, sxE, encs, sevalprocAttr]
    repeat ((with_reducible refine Vc.go ?_ fun _ => ?_); (focus (first | omega | (simp only [InK]; omega) | (simp [InK]; done) | (simp [InK]; omega))); simp only [↓sx0, sxE, encs, sevalprocAttr])
    have e1 : (m.tmod 10).natAbs = m.natAbs % 10 := by rw [Int.natAbs_tmod]; rfl
    have e2 : (m.tdiv 10).natAbs = m.natAbs / 10 := by rw [Int.natAbs_tdiv]; rfl
    refine CallI.fn (sizeD_s (m.tmod 10) (by omega)) (by simp only [sx3, encs, sxR, sevalprocAttr] <;> (try simp) <;> (try rfl)) ?_
    simp only [↓sx0, sxE, encs, sevalprocAttr]
    rw [e1]
    repeat ((with_reducible refine Vc.go ?_ fun _ => ?_); (focus (first | omega | (simp only [InK]; omega) | (simp [InK]; done) | (simp [InK]; omega))); simp only [↓sx0, sxE, encs, sevalprocAttr])
    refine CvR.go (by simp) (bs [UInt8.ofNat (48 + m.natAbs % 10)]) ?_ ?_
    ·simp only [bytesD, bs_toList, List.map_cons, List.map_nil, dig_nat (show m.natAbs % 10 < 10 by omega)]
     simp
    ·simp only [↓sx0, sxE, encs, sevalprocAttr]
     have hs1 : (bs [UInt8.ofNat (48 + m.natAbs % 10)]).size = 1 := bs_size _
     have hs2 : (bs suf).size = suf.length := bs_size _
     repeat ((with_reducible refine Vc.go ?_ fun _ => ?_); (focus (first | omega | (simp only [InK]; omega) | (simp [InK]; done) | (simp [InK]; omega))); simp only [↓sx0, sxE, encs, sevalprocAttr])
     have hadd : bs [UInt8.ofNat (48 + m.natAbs % 10)] ++ bs suf = bs (UInt8.ofNat (48 + m.natAbs % 10) :: suf) := bs_add _ _
     rw [hadd]
     refine ⟨⟨m.tdiv 10, UInt8.ofNat (48 + m.natAbs % 10) :: suf⟩, StLe.auto (by simp only [sx2, encs, sxR, sevalprocAttr] <;> (try simp) <;> (try omega)), ?_, ?_⟩
     ·refine ⟨by simp only; omega, ?_⟩
      simp only
      rw [if_neg hm0] at hE
      by_cases hb : m.natAbs < 10
      ·have : m.tdiv 10 = 0 := by omega
       rw [if_pos this, hE, Lib.decDigits, dif_pos hb, show m.natAbs % 10 = m.natAbs by omega]; rfl
      ·have : ¬ m.tdiv 10 = 0 := by omega
       rw [if_neg this, hE, e2]
       conv => lhs; rw [Lib.decDigits, dif_neg hb]
       simp
     ·simp only; omega
   ·have hm0 := Decidable.not_not.1 hm0
    rw [if_pos hm0, List.nil_append] at hE
    rw [hE] at hit hl
    have hs2 : (bs suf).size = suf.length := bs_size _
    have hs3 : (⟨#[45]⟩ : ByteArray).size = 1 := rfl
    have hs4 : (⟨#[]⟩ : ByteArray).size = 0 := rfl
    simp only [↓sx0, sxE, encs, sevalprocAttr]
    repeat ((with_reducible refine Vc.go ?_ fun _ => ?_); (focus (first | omega | (simp only [InK]; omega) | (simp [InK]; done) | (simp [InK]; omega))); simp only [↓sx0, sxE, encs, sevalprocAttr])
    refine EndW.fn ?_ ?_ <;> simp only [sx4, encs, kpLL_map, sxR, sevalprocAttr] <;> (try simp [hit]) <;> (try omega)
  ·have hit : bs (Lib.itoa n) = ⟨#[]⟩ ++ bs (Lib.decDigits n.natAbs) := by
    rw [show (⟨#[]⟩ : ByteArray) = bs [] from rfl, bs_add, Lib.itoa, if_neg hn, show n.toNat = n.natAbs by omega]; rfl
   simp only [↓sx0, sxE, encs, sevalprocAttr]
   refine LoopW.comp [0, 3, 4] (by simp only [sx2, encs, sxR, sevalprocAttr] <;> (try simp) <;> (try omega)) ?_
   simp only [sx2, sxR, sevalprocAttr]
   refine LoopW.up Tok (fun s : DecS => [(0, (.v (.int .i64 s.m))), (3, (.v (.string (bs s.suf))))]) (fun s => []) (fun s => []) (fun s => []) (fun s => s.m.natAbs ≤ n.natAbs ∧ Lib.decDigits n.natAbs = (if s.m = 0 then [] else Lib.decDigits s.m.natAbs) ++ s.suf) (fun s => s.m.natAbs) (⟨n, []⟩) (by simp only [sx2, encs, sxR, sevalprocAttr] <;> (try simp [bs_nil, encs]) <;> (try omega)) ?_ ?_
   ·exact ⟨Nat.le_refl _, by rw [if_neg hz]; simp⟩
   rintro ⟨m, suf⟩ ⟨hm, hE⟩
   simp only at hm hE
   have hsl : suf.length ≤ 20 := by
    have := congrArg List.length hE
    rw [List.length_append] at this
    omega
   simp only [↓sx0, sxE, encs, sevalprocAttr]
   refine BrW.dec (fun hm0 => ?_) (fun hm0 => ?_)
   ·simp only [↓sx0, sxE, encs, sevalprocAttr]
    repeat ((with_reducible refine Vc.go ?_ fun _ => ?_); (focus (first | omega | (simp only [InK]; omega) | (simp [InK]; done) | (simp [InK]; omega))); simp only [↓sx0, sxE, encs, sevalprocAttr])
    have e1 : (m.tmod 10).natAbs = m.natAbs % 10 := by rw [Int.natAbs_tmod]; rfl
    have e2 : (m.tdiv 10).natAbs = m.natAbs / 10 := by rw [Int.natAbs_tdiv]; rfl
    refine CallI.fn (sizeD_s (m.tmod 10) (by omega)) (by simp only [sx3, encs, sxR, sevalprocAttr] <;> (try simp) <;> (try rfl)) ?_
    simp only [↓sx0, sxE, encs, sevalprocAttr]
    rw [e1]
    repeat ((with_reducible refine Vc.go ?_ fun _ => ?_); (focus (first | omega | (simp only [InK]; omega) | (simp [InK]; done) | (simp [InK]; omega))); simp only [↓sx0, sxE, encs, sevalprocAttr])
    refine CvR.go (by simp) (bs [UInt8.ofNat (48 + m.natAbs % 10)]) ?_ ?_
    ·simp only [bytesD, bs_toList, List.map_cons, List.map_nil, dig_nat (show m.natAbs % 10 < 10 by omega)]
     simp
    ·simp only [↓sx0, sxE, encs, sevalprocAttr]
     have hs1 : (bs [UInt8.ofNat (48 + m.natAbs % 10)]).size = 1 := bs_size _
     have hs2 : (bs suf).size = suf.length := bs_size _
     repeat ((with_reducible refine Vc.go ?_ fun _ => ?_); (focus (first | omega | (simp only [InK]; omega) | (simp [InK]; done) | (simp [InK]; omega))); simp only [↓sx0, sxE, encs, sevalprocAttr])
     have hadd : bs [UInt8.ofNat (48 + m.natAbs % 10)] ++ bs suf = bs (UInt8.ofNat (48 + m.natAbs % 10) :: suf) := bs_add _ _
     rw [hadd]
     refine ⟨⟨m.tdiv 10, UInt8.ofNat (48 + m.natAbs % 10) :: suf⟩, StLe.auto (by simp only [sx2, encs, sxR, sevalprocAttr] <;> (try simp) <;> (try omega)), ?_, ?_⟩
     ·refine ⟨by simp only; omega, ?_⟩
      simp only
      rw [if_neg hm0] at hE
      by_cases hb : m.natAbs < 10
      ·have : m.tdiv 10 = 0 := by omega
       rw [if_pos this, hE, Lib.decDigits, dif_pos hb, show m.natAbs % 10 = m.natAbs by omega]; rfl
      ·have : ¬ m.tdiv 10 = 0 := by omega
       rw [if_neg this, hE, e2]
       conv => lhs; rw [Lib.decDigits, dif_neg hb]
       simp
     ·simp only; omega
   ·have hm0 := Decidable.not_not.1 hm0
    rw [if_pos hm0, List.nil_append] at hE
    rw [hE] at hit hl
    have hs2 : (bs suf).size = suf.length := bs_size _
    have hs3 : (⟨#[45]⟩ : ByteArray).size = 1 := rfl
    have hs4 : (⟨#[]⟩ : ByteArray).size = 0 := rfl
    simp only [↓sx0, sxE, encs, sevalprocAttr]
    repeat ((with_reducible refine Vc.go ?_ fun _ => ?_); (focus (first | omega | (simp only [InK]; omega) | (simp [InK]; done) | (simp [InK]; omega))); simp only [↓sx0, sxE, encs, sevalprocAttr])
    refine EndW.fn ?_ ?_ <;> simp only [sx4, encs, kpLL_map, sxR, sevalprocAttr] <;> (try simp [hit]) <;> (try omega)
end Go.Proofs.YtfojggadhhaleaaGreatDoor
/-
 Chapter 9: numbers of texts, texts cut (the reference).
-/
namespace Go.Proofs.YtfojggadhhaleaaGreatDoor
open Go Go.Vx
set_option linter.unusedSimpArgs false
set_option linter.unusedVariables false
set_option maxRecDepth 20000
theorem sIx_at {l : List UInt8} {j : Nat} {k : SV → Prop} (h : j < l.length) (hk : k (.v (.int .u8 ((l[j].toNat : Nat) : Int)))) : StrIx (bs l) (j : Int) k ⟨⟩ := StrIx.nat (s := bs l) (j := j) (by rw [bs_size]; exact h) hk
theorem sIx_0 {c : UInt8} {r : List UInt8} {k : SV → Prop} (hk : k (.v (.int .u8 ((c.toNat : Nat) : Int)))) : StrIx (bs (c :: r)) 0 k ⟨⟩ := sIx_at (l := c :: r) (j := 0) (by simp) hk
theorem sIx_x {l : List UInt8} {i : Int} {k : SV → Prop} (j : Nat) (x : UInt8) (hj : i = j) (h : l[j]? = some x) (hk : k (.v (.int .u8 ((x.toNat : Nat) : Int)))) : StrIx (bs l) i k ⟨⟩ := by
 obtain ⟨h1, h2⟩ := List.getElem?_eq_some_iff.1 h
 subst hj
 refine sIx_at h1 ?_
 rw [h2]; exact hk
theorem sIx_1 {c d : UInt8} {r : List UInt8} {k : SV → Prop} (hk : k (.v (.int .u8 ((d.toNat : Nat) : Int)))) : StrIx (bs (c :: d :: r)) 1 k ⟨⟩ := sIx_at (l := c :: d :: r) (j := 1) (by simp) hk
theorem u8_eq {a b : UInt8} : a = b ↔ a.toNat = b.toNat := UInt8.toNat_inj.symm
theorem valD_lt : ∀ (l : List UInt8) (acc : Nat), l.all dgB = true → valD acc l < (acc + 1) * 10 ^ l.length
 | [], acc, _ => by simp [valD]
 | c :: r, acc, h => by
  rw [List.all_cons, Bool.and_eq_true] at h
  have hc : 48 ≤ c.toNat ∧ c.toNat ≤ 57 := by simpa [dgB] using h.1
  have ih := valD_lt r (acc * 10 + (c.toNat - 48)) h.2
  rw [valD_cons, List.length_cons, Nat.pow_succ]
  refine Nat.lt_of_lt_of_le ih ?_
  rw [Nat.mul_comm (10 ^ r.length) 10, ← Nat.mul_assoc]
  exact Nat.mul_le_mul_right _ (by omega)
theorem valD_17 {a : List UInt8} (h : a.all dgB = true) (hl : a.length ≤ 17) : valD 0 a < 10 ^ 17 := by
 have := valD_lt a 0 h
 rw [Nat.zero_add, Nat.one_mul] at this
 exact Nat.lt_of_lt_of_le this (Nat.pow_le_pow_right (by decide) hl)
theorem valD_bd {a : List UInt8} (h : a.all dgB = true) (hl : a.length ≤ 18) : valD 0 a < 10 ^ 18 := (parse_of a 0 0 h (by decide) (by omega)).2
structure NS where
 a : List UInt8
 b : List UInt8
set_option maxHeartbeats 4000000 in
theorem number_R (l : List UInt8) (dg : Nat) (hd : dg ≤ 18) (hll : l.length ≤ 1000000) : Ctr Tryz.prog 30 [(.v (.string (bs l))), (.v (.int .i64 ((dg : Int))))] (fun rr => rr = ⟨.tup [(.v (.int .i64 ((numR l dg).1))), (.v (.bool ((numR l dg).2)))], []⟩) := by
 rcases l with _ | ⟨c, r⟩
 ·have hv : numR [] dg = (0, false) := by simp [numR]
  rw [hv]
  refine Ctr.of (rs := [.tmp 4, .tmp 5]) Tok true Tryz.func30 rfl rfl rfl rfl (by simp [ofDL]) (fun w0 kp => ?_)
  simp only [↓sx0, sxE, encs, sevalprocAttr]
  rw [bs_size]
  refine BrW.no (by simp) ?_
  simp only [↓sx0, sxE, encs, sevalprocAttr]
  rw [bs_size]
  refine BrW.yes (by simp) ?_
  simp only [↓sx0, sxE, encs, sevalprocAttr]
  refine EndW.fn ?_ ?_ <;> simp only [sx4, encs, kpLL_map, sxR, sevalprocAttr] <;> (try simp) <;> (try omega)
 ·refine Ctr.of (rs := [.tmp 4, .tmp 5]) Tok true Tryz.func30 rfl rfl rfl rfl (by simp [ofDL]) (fun w0 kp => ?_)
  simp only [↓sx0, sxE, encs, sevalprocAttr]
  rw [bs_size]
  refine BrW.yes (by simp) ?_
  simp only [↓sx0, sxE, encs, sevalprocAttr]
  refine sIx_0 ?_
  simp only [↓sx0, sxE, encs, sevalprocAttr]
  refine BrW.dec (fun h45 => ?_) (fun h45 => ?_)
  ·have hc : c = 45 := u8_eq.2 (by rw [show (45 : UInt8).toNat = 45 from rfl]; omega)
   subst hc
   have hsz1 : ((45 : UInt8) :: r).length = r.length + 1 := rfl
   simp only [↓sx0, sxE, encs, sevalprocAttr]
   rw [bs_size, hsz1]
   rcases r with _ | ⟨d, r⟩
   ·refine BrW.yes (by simp) ?_
    simp only [↓sx0, sxE, encs, sevalprocAttr]
    have hv : numR [45] dg = (0, false) := by simp [numR, numM]
    refine EndW.fn ?_ ?_ <;> simp only [sx4, encs, kpLL_map, sxR, sevalprocAttr] <;> (try simp [hv]) <;> (try omega)
   ·have hsz2 : ((45 : UInt8) :: d :: r).length = r.length + 2 := rfl
    refine BrW.no (by simp only [List.length_cons]; omega) ?_
    simp only [↓sx0, sxE, encs, sevalprocAttr]
    rw [bs_size, hsz2]
    repeat ((with_reducible refine Vc.go ?_ fun _ => ?_); (focus (first | omega | (simp only [InK]; omega) | (simp [InK]; done) | (simp [InK]; omega))); simp only [↓sx0, sxE, encs, sevalprocAttr])
    refine BrW.dec (fun hbig => ?_) (fun hbig => ?_)
    ·simp only [↓sx0, sxE, encs, sevalprocAttr]
     have hv : numR (45 :: d :: r) dg = (0, false) := by
      rw [numR, if_pos (show ((45 : UInt8) :: d :: r).head? = some 45 from rfl), List.tail_cons, numM, if_pos (.inr (.inl (by simp only [List.length_cons]; omega)))]
     refine EndW.fn ?_ ?_ <;> simp only [sx4, encs, kpLL_map, sxR, sevalprocAttr] <;> (try simp [hv]) <;> (try omega)
    ·simp only [↓sx0, sxE, encs, sevalprocAttr]
     refine sIx_1 ?_
     simp only [↓sx0, sxE, encs, sevalprocAttr]
     refine BrW.dec (fun h48 => ?_) (fun h48 => ?_)
     ·simp only [↓sx0, sxE, encs, sevalprocAttr]
      rw [bs_size, hsz2]
      refine BrW.yes (by omega) ?_
      simp only [↓sx0, sxE, encs, sevalprocAttr]
      have hd48 : d = 48 := u8_eq.2 (by rw [show (48 : UInt8).toNat = 48 from rfl]; omega)
      have hv : numR (45 :: d :: r) dg = (0, false) := by
       rw [numR, if_pos (show ((45 : UInt8) :: d :: r).head? = some 45 from rfl), List.tail_cons, numM, if_pos (.inr (.inr (by rw [hd48]; rfl)))]
      refine EndW.fn ?_ ?_ <;> simp only [sx4, encs, kpLL_map, sxR, sevalprocAttr] <;> (try simp [hv]) <;> (try omega)
     ·have hd48 : ¬ d = 48 := fun e => h48 (by rw [e]; rfl)
      simp only [↓sx0, sxE, encs, sevalprocAttr]
      have bad : (d :: r).all dgB = false → numR (45 :: d :: r) dg = (0, false) := fun h => by
       rw [numR, if_pos (show ((45 : UInt8) :: d :: r).head? = some 45 from rfl), List.tail_cons, numM, if_neg (by simp only [List.length_cons, List.head?_cons, Option.some.injEq]; rintro (h | h | h) <;> first | omega | exact hd48 h)]
       rw [if_neg (by rw [h]; simp)]
      have good : (d :: r).all dgB = true → numR (45 :: d :: r) dg = (-(valD 0 (d :: r) : Int), true) := fun h => by
       rw [numR, if_pos (show ((45 : UInt8) :: d :: r).head? = some 45 from rfl), List.tail_cons, numM, if_neg (by simp only [List.length_cons, List.head?_cons, Option.some.injEq]; rintro (h | h | h) <;> first | omega | exact hd48 h)]
       rw [if_pos h]
      refine LoopW.comp [0, 6, 7, 8] (by simp only [sx2, encs, sxR, sevalprocAttr] <;> (try simp) <;> (try omega)) ?_
      simp only [sx2, sxR, sevalprocAttr]
      refine LoopW.up Tok (fun s : NS => [(8, (.v (.int .i64 (1 + s.a.length)))), (7, (.v (.int .i64 ((valD 0 s.a : Int)))))]) (fun s => []) (fun s => []) (fun s => []) (fun s => d :: r = s.a ++ s.b ∧ s.a.all dgB = true) (fun s => s.b.length) (⟨[], d :: r⟩) (by simp only [sx2, encs, sxR, sevalprocAttr] <;> (try simp [valD, List.foldl_nil, encs]) <;> (try omega)) ?_ ?_
      ·exact ⟨rfl, rfl⟩
      rintro ⟨a, b⟩ ⟨hE, ha⟩
      simp only at hE ha
      have hlen : (d :: r).length = a.length + b.length := by rw [hE, List.length_append]
      have hrl : (d :: r).length = r.length + 1 := rfl
      have ha18 : a.length ≤ 18 := by omega
      have hbd := valD_bd ha ha18
      simp only [↓sx0, sxE, encs, sevalprocAttr]
      rw [bs_size, hsz2]
      rcases b with _ | ⟨x, b⟩
      ·rw [List.append_nil] at hE
       simp only [List.length_nil] at hlen
       refine BrW.no (by omega) ?_
       simp only [↓sx0, sxE, encs, sevalprocAttr]
       have hv : numR (45 :: d :: r) dg = (-(valD 0 a : Int), true) := by rw [good (by rw [hE]; exact ha), hE]
       repeat ((with_reducible refine Vc.go ?_ fun _ => ?_); (focus (first | omega | (simp only [InK]; omega) | (simp [InK]; done) | (simp [InK]; omega))); simp only [↓sx0, sxE, encs, sevalprocAttr])
       refine EndW.fn ?_ ?_ <;> simp only [sx4, encs, kpLL_map, sxR, sevalprocAttr] <;> (try simp [hv]) <;> (try omega)
      ·simp only [List.length_cons] at hlen
       refine BrW.yes (by omega) ?_
       simp only [↓sx0, sxE, encs, sevalprocAttr]
       have hb17 := valD_17 ha (by omega)
       have hx : (45 :: d :: r)[a.length + 1]? = some x := by
        rw [hE]; simp
       refine sIx_x (a.length + 1) x (by omega) hx ?_
       simp only [↓sx0, sxE, encs, sevalprocAttr]
       have badx : dgB x = false → numR (45 :: d :: r) dg = (0, false) := fun h => bad (by rw [hE, List.all_append, List.all_cons, h]; simp)
       refine BrW.dec (fun hl0 => ?_) (fun hl0 => ?_)
       ·simp only [↓sx0, sxE, encs, sevalprocAttr]
        have hv := badx (by simp only [dgB, decide_eq_false_iff_not]; omega)
        refine EndW.fn ?_ ?_ <;> simp only [sx4, encs, kpLL_map, sxR, sevalprocAttr] <;> (try simp [hv]) <;> (try omega)
       ·simp only [↓sx0, sxE, encs, sevalprocAttr]
        refine sIx_x (a.length + 1) x (by omega) hx ?_
        simp only [↓sx0, sxE, encs, sevalprocAttr]
        refine BrW.dec (fun hl1 => ?_) (fun hl1 => ?_)
        ·simp only [↓sx0, sxE, encs, sevalprocAttr]
         have hv := badx (by simp only [dgB, decide_eq_false_iff_not]; omega)
         refine EndW.fn ?_ ?_ <;> simp only [sx4, encs, kpLL_map, sxR, sevalprocAttr] <;> (try simp [hv]) <;> (try omega)
        ·simp only [↓sx0, sxE, encs, sevalprocAttr]
         repeat ((with_reducible refine Vc.go ?_ fun _ => ?_); (focus (first | omega | (simp only [InK]; omega) | (simp [InK]; done) | (simp [InK]; omega))); simp only [↓sx0, sxE, encs, sevalprocAttr])
         refine sIx_x (a.length + 1) x (by omega) hx ?_
         simp only [↓sx0, sxE, encs, sevalprocAttr]
         repeat ((with_reducible refine Vc.go ?_ fun _ => ?_); (focus (first | omega | (simp only [InK]; omega) | (simp [InK]; done) | (simp [InK]; omega))); simp only [↓sx0, sxE, encs, sevalprocAttr])
         have hvs : valD 0 (a ++ [x]) = valD 0 a * 10 + (x.toNat - 48) := by rw [valD_append]; rfl
         refine ⟨⟨a ++ [x], b⟩, StLe.auto (by simp only [sx2, encs, sxR, sevalprocAttr] <;> (try simp [hvs, encs]) <;> (try omega)), ?_, ?_⟩
         ·refine ⟨by simp only [hE, List.append_assoc, List.singleton_append], ?_⟩
          simp only [List.all_append, List.all_cons, List.all_nil, ha, dgB, Bool.true_and, Bool.and_true, decide_eq_true_eq]
          omega
         ·simp
  ·have hc : ¬ c = 45 := fun e => h45 (by rw [e]; rfl)
   have hsz2 : (c :: r).length = r.length + 1 := rfl
   simp only [↓sx0, sxE, encs, sevalprocAttr]
   rw [bs_size, hsz2]
   refine BrW.no (by omega) ?_
   simp only [↓sx0, sxE, encs, sevalprocAttr]
   rw [bs_size, hsz2]
   repeat ((with_reducible refine Vc.go ?_ fun _ => ?_); (focus (first | omega | (simp only [InK]; omega) | (simp [InK]; done) | (simp [InK]; omega))); simp only [↓sx0, sxE, encs, sevalprocAttr])
   refine BrW.dec (fun hbig => ?_) (fun hbig => ?_)
   ·simp only [↓sx0, sxE, encs, sevalprocAttr]
    have hv : numR (c :: r) dg = (0, false) := by
     rw [numR, if_neg (by simp [hc]), if_pos (.inr (.inl (by simp only [List.length_cons]; omega)))]
    refine EndW.fn ?_ ?_ <;> simp only [sx4, encs, kpLL_map, sxR, sevalprocAttr] <;> (try simp [hv]) <;> (try omega)
   ·simp only [↓sx0, sxE, encs, sevalprocAttr]
    refine sIx_0 ?_
    simp only [↓sx0, sxE, encs, sevalprocAttr]
    have key : ¬ (c = 48 ∧ 1 < (c :: r).length) → ¬ (c :: r = [] ∨ dg < (c :: r).length ∨ ((c :: r).head? = some 48 ∧ 1 < (c :: r).length)) := fun h => by
     rintro (h1 | h1 | h1)
     ·cases h1
     ·simp only [List.length_cons] at h1; omega
     ·exact h ⟨by simpa using h1.1, h1.2⟩
    refine BrW.dec (fun h48 => ?_) (fun h48 => ?_)
    ·simp only [↓sx0, sxE, encs, sevalprocAttr]
     rw [bs_size, hsz2]
     have hd48 : c = 48 := u8_eq.2 (by rw [show (48 : UInt8).toNat = 48 from rfl]; omega)
     refine BrW.dec (fun hone => ?_) (fun hone => ?_)
     ·simp only [↓sx0, sxE, encs, sevalprocAttr]
      have hv : numR (c :: r) dg = (0, false) := by
       rw [numR, if_neg (by simp [hc]), if_pos (.inr (.inr ⟨by rw [hd48]; rfl, by simp only [List.length_cons]; omega⟩))]
      refine EndW.fn ?_ ?_ <;> simp only [sx4, encs, kpLL_map, sxR, sevalprocAttr] <;> (try simp [hv]) <;> (try omega)
     ·have hno := key (fun h => hone (by have := h.2; simp only [List.length_cons] at this; omega))
      simp only [↓sx0, sxE, encs, sevalprocAttr]
      have bad : (c :: r).all dgB = false → numR (c :: r) dg = (0, false) := fun h => by
       rw [numR, if_neg (by simp [hc]), if_neg hno]
       rw [if_neg (by rw [h]; simp)]
      have good : (c :: r).all dgB = true → numR (c :: r) dg = ((valD 0 (c :: r) : Int), true) := fun h => by
       rw [numR, if_neg (by simp [hc]), if_neg hno]
       rw [if_pos h]
      refine LoopW.comp [0, 6, 7, 8] (by simp only [sx2, encs, sxR, sevalprocAttr] <;> (try simp) <;> (try omega)) ?_
      simp only [sx2, sxR, sevalprocAttr]
      refine LoopW.up Tok (fun s : NS => [(8, (.v (.int .i64 ( s.a.length)))), (7, (.v (.int .i64 ((valD 0 s.a : Int)))))]) (fun s => []) (fun s => []) (fun s => []) (fun s => c :: r = s.a ++ s.b ∧ s.a.all dgB = true) (fun s => s.b.length) (⟨[], c :: r⟩) (by simp only [sx2, encs, sxR, sevalprocAttr] <;> (try simp [valD, List.foldl_nil, encs]) <;> (try omega)) ?_ ?_
      ·exact ⟨rfl, rfl⟩
      rintro ⟨a, b⟩ ⟨hE, ha⟩
      simp only at hE ha
      have hlen : (c :: r).length = a.length + b.length := by rw [hE, List.length_append]
      have hrl : (c :: r).length = r.length + 1 := rfl
      have ha18 : a.length ≤ 18 := by omega
      have hbd := valD_bd ha ha18
      simp only [↓sx0, sxE, encs, sevalprocAttr]
      rw [bs_size, hsz2]
      rcases b with _ | ⟨x, b⟩
      ·rw [List.append_nil] at hE
       simp only [List.length_nil] at hlen
       refine BrW.no (by omega) ?_
       simp only [↓sx0, sxE, encs, sevalprocAttr]
       have hv : numR (c :: r) dg = ((valD 0 a : Int), true) := by rw [good (by rw [hE]; exact ha), hE]
       skip
       refine EndW.fn ?_ ?_ <;> simp only [sx4, encs, kpLL_map, sxR, sevalprocAttr] <;> (try simp [hv]) <;> (try omega)
      ·simp only [List.length_cons] at hlen
       refine BrW.yes (by omega) ?_
       simp only [↓sx0, sxE, encs, sevalprocAttr]
       have hb17 := valD_17 ha (by omega)
       have hx : (c :: r)[a.length]? = some x := by
        rw [hE]; simp
       refine sIx_x (a.length) x (by omega) hx ?_
       simp only [↓sx0, sxE, encs, sevalprocAttr]
       have badx : dgB x = false → numR (c :: r) dg = (0, false) := fun h => bad (by rw [hE, List.all_append, List.all_cons, h]; simp)
       refine BrW.dec (fun hl0 => ?_) (fun hl0 => ?_)
       ·simp only [↓sx0, sxE, encs, sevalprocAttr]
        have hv := badx (by simp only [dgB, decide_eq_false_iff_not]; omega)
        refine EndW.fn ?_ ?_ <;> simp only [sx4, encs, kpLL_map, sxR, sevalprocAttr] <;> (try simp [hv]) <;> (try omega)
       ·simp only [↓sx0, sxE, encs, sevalprocAttr]
        refine sIx_x (a.length) x (by omega) hx ?_
        simp only [↓sx0, sxE, encs, sevalprocAttr]
        refine BrW.dec (fun hl1 => ?_) (fun hl1 => ?_)
        ·simp only [↓sx0, sxE, encs, sevalprocAttr]
         have hv := badx (by simp only [dgB, decide_eq_false_iff_not]; omega)
         refine EndW.fn ?_ ?_ <;> simp only [sx4, encs, kpLL_map, sxR, sevalprocAttr] <;> (try simp [hv]) <;> (try omega)
        ·simp only [↓sx0, sxE, encs, sevalprocAttr]
         repeat ((with_reducible refine Vc.go ?_ fun _ => ?_); (focus (first | omega | (simp only [InK]; omega) | (simp [InK]; done) | (simp [InK]; omega))); simp only [↓sx0, sxE, encs, sevalprocAttr])
         refine sIx_x (a.length) x (by omega) hx ?_
         simp only [↓sx0, sxE, encs, sevalprocAttr]
         repeat ((with_reducible refine Vc.go ?_ fun _ => ?_); (focus (first | omega | (simp only [InK]; omega) | (simp [InK]; done) | (simp [InK]; omega))); simp only [↓sx0, sxE, encs, sevalprocAttr])
         have hvs : valD 0 (a ++ [x]) = valD 0 a * 10 + (x.toNat - 48) := by rw [valD_append]; rfl
         refine ⟨⟨a ++ [x], b⟩, StLe.auto (by simp only [sx2, encs, sxR, sevalprocAttr] <;> (try simp [hvs, encs]) <;> (try omega)), ?_, ?_⟩
         ·refine ⟨by simp only [hE, List.append_assoc, List.singleton_append], ?_⟩
          simp only [List.all_append, List.all_cons, List.all_nil, ha, dgB, Bool.true_and, Bool.and_true, decide_eq_true_eq]
          omega
         ·simp
    ·have hno := key (fun h => h48 (by rw [h.1]; rfl))
     simp only [↓sx0, sxE, encs, sevalprocAttr]
     have bad : (c :: r).all dgB = false → numR (c :: r) dg = (0, false) := fun h => by
      rw [numR, if_neg (by simp [hc]), if_neg hno]
      rw [if_neg (by rw [h]; simp)]
     have good : (c :: r).all dgB = true → numR (c :: r) dg = ((valD 0 (c :: r) : Int), true) := fun h => by
      rw [numR, if_neg (by simp [hc]), if_neg hno]
      rw [if_pos h]
     refine LoopW.comp [0, 6, 7, 8] (by simp only [sx2, encs, sxR, sevalprocAttr] <;> (try simp) <;> (try omega)) ?_
     simp only [sx2, sxR, sevalprocAttr]
     refine LoopW.up Tok (fun s : NS => [(8, (.v (.int .i64 ( s.a.length)))), (7, (.v (.int .i64 ((valD 0 s.a : Int)))))]) (fun s => []) (fun s => []) (fun s => []) (fun s => c :: r = s.a ++ s.b ∧ s.a.all dgB = true) (fun s => s.b.length) (⟨[], c :: r⟩) (by simp only [sx2, encs, sxR, sevalprocAttr] <;> (try simp [valD, List.foldl_nil, encs]) <;> (try omega)) ?_ ?_
     ·exact ⟨rfl, rfl⟩
     rintro ⟨a, b⟩ ⟨hE, ha⟩
     simp only at hE ha
     have hlen : (c :: r).length = a.length + b.length := by rw [hE, List.length_append]
     have hrl : (c :: r).length = r.length + 1 := rfl
     have ha18 : a.length ≤ 18 := by omega
     have hbd := valD_bd ha ha18
     simp only [↓sx0, sxE, encs, sevalprocAttr]
     rw [bs_size, hsz2]
     rcases b with _ | ⟨x, b⟩
     ·rw [List.append_nil] at hE
      simp only [List.length_nil] at hlen
      refine BrW.no (by omega) ?_
      simp only [↓sx0, sxE, encs, sevalprocAttr]
      have hv : numR (c :: r) dg = ((valD 0 a : Int), true) := by rw [good (by rw [hE]; exact ha), hE]
      skip
      refine EndW.fn ?_ ?_ <;> simp only [sx4, encs, kpLL_map, sxR, sevalprocAttr] <;> (try simp [hv]) <;> (try omega)
     ·simp only [List.length_cons] at hlen
      refine BrW.yes (by omega) ?_
      simp only [↓sx0, sxE, encs, sevalprocAttr]
      have hb17 := valD_17 ha (by omega)
      have hx : (c :: r)[a.length]? = some x := by
       rw [hE]; simp
      refine sIx_x (a.length) x (by omega) hx ?_
      simp only [↓sx0, sxE, encs, sevalprocAttr]
      have badx : dgB x = false → numR (c :: r) dg = (0, false) := fun h => bad (by rw [hE, List.all_append, List.all_cons, h]; simp)
      refine BrW.dec (fun hl0 => ?_) (fun hl0 => ?_)
      ·simp only [↓sx0, sxE, encs, sevalprocAttr]
       have hv := badx (by simp only [dgB, decide_eq_false_iff_not]; omega)
       refine EndW.fn ?_ ?_ <;> simp only [sx4, encs, kpLL_map, sxR, sevalprocAttr] <;> (try simp [hv]) <;> (try omega)
      ·simp only [↓sx0, sxE, encs, sevalprocAttr]
       refine sIx_x (a.length) x (by omega) hx ?_
       simp only [↓sx0, sxE, encs, sevalprocAttr]
       refine BrW.dec (fun hl1 => ?_) (fun hl1 => ?_)
       ·simp only [↓sx0, sxE, encs, sevalprocAttr]
        have hv := badx (by simp only [dgB, decide_eq_false_iff_not]; omega)
        refine EndW.fn ?_ ?_ <;> simp only [sx4, encs, kpLL_map, sxR, sevalprocAttr] <;> (try simp [hv]) <;> (try omega)
       ·simp only [↓sx0, sxE, encs, sevalprocAttr]
        repeat ((with_reducible refine Vc.go ?_ fun _ => ?_); (focus (first | omega | (simp only [InK]; omega) | (simp [InK]; done) | (simp [InK]; omega))); simp only [↓sx0, sxE, encs, sevalprocAttr])
        refine sIx_x (a.length) x (by omega) hx ?_
        simp only [↓sx0, sxE, encs, sevalprocAttr]
        repeat ((with_reducible refine Vc.go ?_ fun _ => ?_); (focus (first | omega | (simp only [InK]; omega) | (simp [InK]; done) | (simp [InK]; omega))); simp only [↓sx0, sxE, encs, sevalprocAttr])
        have hvs : valD 0 (a ++ [x]) = valD 0 a * 10 + (x.toNat - 48) := by rw [valD_append]; rfl
        refine ⟨⟨a ++ [x], b⟩, StLe.auto (by simp only [sx2, encs, sxR, sevalprocAttr] <;> (try simp [hvs, encs]) <;> (try omega)), ?_, ?_⟩
        ·refine ⟨by simp only [hE, List.append_assoc, List.singleton_append], ?_⟩
         simp only [List.all_append, List.all_cons, List.all_nil, ha, dgB, Bool.true_and, Bool.and_true, decide_eq_true_eq]
         omega
        ·simp
end Go.Proofs.YtfojggadhhaleaaGreatDoor
/-
 Chapter 9: texts cut (the reference).
-/
namespace Go.Proofs.YtfojggadhhaleaaGreatDoor
open Go Go.Vx
set_option linter.unusedSimpArgs false
set_option linter.unusedVariables false
set_option maxRecDepth 20000
def eW (p : List UInt8) : List D := [(.v (.string (bs p)))]
theorem eW_def : ∀ p, eW p = [(.v (.string (bs p)))] := fun _ => rfl
theorem bs_ext (A p B : List UInt8) (i j : Nat) (hi : i = A.length) (hj : j = A.length + p.length) : (bs (A ++ p ++ B)).extract i j = bs p := by
 subst hi hj
 apply ByteArray.ext
 simp only [bs, ByteArray.data_extract]
 apply Array.toList_inj.1
 simp [List.extract_eq_take_drop, List.drop_append, List.take_append]
structure CS where
 A : List UInt8
 p : List UInt8
 b : List UInt8
 O : List (List UInt8)
set_option maxHeartbeats 4000000 in
theorem cut_R (l : List UInt8) (c : UInt8) (hll : l.length ≤ 1000000) : Ctr Tryz.prog 29 [(.v (.string (bs l))), .v (.int .u8 (c.toNat : Int))] (fun rr => rr = ⟨.sl true 1 ((cutL c [] l).map eW), []⟩) := by
 have encs := And.intro encs eW_def
 refine Ctr.of (rs := [.tmp 4]) Tok true Tryz.func29 rfl rfl rfl rfl (by simp [ofDL]) (fun w0 kp => ?_)
 simp only [↓sx0, sxE, encs, sevalprocAttr]
 refine LoopW.comp [0, 1, 5, 6, 7] (by simp only [sx2, encs, sxR, sevalprocAttr] <;> (try simp) <;> (try omega)) ?_
 simp only [sx2, sxR, sevalprocAttr]
 refine LoopW.up Tok (fun s : CS => [(5, .row 0), (6, (.v (.int .i64 ((s.A.length : Int))))), (7, (.v (.int .i64 ((s.A.length : Int) + s.p.length))))]) (fun s => []) (fun s => []) (fun s => [.own 9 1 (s.O.map eW)]) (fun s => l = s.A ++ s.p ++ s.b ∧ cutL c [] l = s.O ++ cutL c s.p s.b ∧ s.O.length ≤ s.A.length) (fun s => s.b.length) (⟨[], [], l, []⟩) (by simp only [sx2, encs, sxR, sevalprocAttr] <;> (try simp) <;> (try omega)) ?_ ?_
 ·exact ⟨rfl, rfl, Nat.le_refl _⟩
 rintro ⟨A, p, b, O⟩ ⟨hl, hc, hO⟩
 simp only at hl hc hO
 have hlen : l.length = A.length + p.length + b.length := by rw [hl]; simp [Nat.add_assoc]
 simp only [↓sx0, sxE, encs, sevalprocAttr]
 rw [bs_size]
 rcases b with _ | ⟨x, b⟩
 ·simp only [List.length_nil] at hlen
  refine BrW.no (by omega) ?_
  simp only [↓sx0, sxE, encs, sevalprocAttr]
  have hsz := bs_size l
  have hex : ∀ i j, i = A.length → j = A.length + p.length → (bs l).extract i j = bs p := fun i j h1 h2 => by rw [hl]; exact bs_ext A p [] i j h1 h2
  repeat ((with_reducible refine Vc.go ?_ fun _ => ?_); (focus (first | omega | (simp only [InK]; omega) | (simp [InK]; done) | (simp [InK]; omega))); simp only [↓sx0, sxE, encs, sevalprocAttr])
  rw [hex _ _ (by omega) (by omega)]
  have hcc : cutL c [] l = O ++ [p] := by rw [hc, cutL]
  refine EndW.fn ?_ ?_ <;> simp only [sx4, encs, kpLL_map, sxR, sevalprocAttr] <;> (try simp [hcc, eW]) <;> (try omega)
 ·simp only [List.length_cons] at hlen
  refine BrW.yes (by omega) ?_
  simp only [↓sx0, sxE, encs, sevalprocAttr]
  have hx : l[A.length + p.length]? = some x := by rw [hl]; simp
  refine sIx_x (A.length + p.length) x (by omega) hx ?_
  simp only [↓sx0, sxE, encs, sevalprocAttr]
  have hsz := bs_size l
  refine BrW.dec (fun heq => ?_) (fun heq => ?_)
  ·have heq : x = c := u8_eq.2 (by omega)
   subst heq
   simp only [↓sx0, sxE, encs, sevalprocAttr]
   have hex : ∀ i j, i = A.length → j = A.length + p.length → (bs l).extract i j = bs p := fun i j h1 h2 => by rw [hl]; exact bs_ext A p (x :: b) i j h1 h2
   repeat ((with_reducible refine Vc.go ?_ fun _ => ?_); (focus (first | omega | (simp only [InK]; omega) | (simp [InK]; done) | (simp [InK]; omega))); simp only [↓sx0, sxE, encs, sevalprocAttr])
   rw [hex _ _ (by omega) (by omega)]
   repeat ((with_reducible refine Vc.go ?_ fun _ => ?_); (focus (first | omega | (simp only [InK]; omega) | (simp [InK]; done) | (simp [InK]; omega))); simp only [↓sx0, sxE, encs, sevalprocAttr])
   refine ⟨⟨A ++ p ++ [x], [], b, O ++ [p]⟩, StLe.auto (by simp only [sx2, encs, sxR, sevalprocAttr] <;> (try simp [eW, encs]) <;> (try omega)), ?_, ?_⟩
   ·refine ⟨by rw [hl]; simp, ?_, ?_⟩
    ·rw [hc, cutL, if_pos rfl]; simp
    ·simp; omega
   ·simp
  ·have heq : ¬ x = c := fun e => heq (by rw [e])
   simp only [↓sx0, sxE, encs, sevalprocAttr]
   repeat ((with_reducible refine Vc.go ?_ fun _ => ?_); (focus (first | omega | (simp only [InK]; omega) | (simp [InK]; done) | (simp [InK]; omega))); simp only [↓sx0, sxE, encs, sevalprocAttr])
   refine ⟨⟨A, p ++ [x], b, O⟩, StLe.auto (by simp only [sx2, encs, sxR, sevalprocAttr] <;> (try simp) <;> (try omega)), ?_, ?_⟩
   ·refine ⟨by rw [hl]; simp, ?_, hO⟩
    rw [hc, cutL, if_neg heq]
   ·simp
end Go.Proofs.YtfojggadhhaleaaGreatDoor
/-
 Chapter 9: words of texts.
-/
namespace Go.Proofs.YtfojggadhhaleaaGreatDoor
open Go Go.Vx
set_option linter.unusedSimpArgs false
set_option linter.unusedVariables false
set_option maxRecDepth 20000
theorem join_snoc (xs : List (List UInt8)) (y sep : List UInt8) : Lib.join (xs ++ [y]) sep = if xs = [] then y else Lib.join xs sep ++ sep ++ y := by
 cases xs with
 | nil => rw [if_pos rfl]; exact Lib.join_one y sep
 | cons x r => rw [if_neg (by simp), List.cons_append, Lib.join_cons, Lib.join_cons]; simp [Lib.joinTail]
theorem itoa_len {n : Int} (h : -9223372036854775808 ≤ n ∧ n ≤ 9223372036854775807) : (Lib.itoa n).length ≤ 21 := by
 rw [Lib.itoa]
 split
 ·have := dec_len 19 n.natAbs (by omega)
  simp only [List.length_cons]; omega
 ·have := dec_len 19 n.toNat (by omega)
  omega
theorem split_T (s : List UInt8) (hs : s.length ≤ 1000000) : CtrK glob Tryz.prog 25 [(.v (.string (bs s))), (.v (.string (⟨#[32]⟩)))] (fun rr => rr = ⟨.row 0, [.own 9 1 ((cutL 32 [] s).map eW)]⟩) := by
 have h := split_s (bs s) 32 (by rw [bs_size]; omega)
 have e := split_cut 32 (bs s)
 rw [bs_toList] at e
 rw [show (cutL 32 [] s).map eW = (Lib.splitB ⟨#[32]⟩ 0 (Lib.countB (bs s) ⟨#[32]⟩) (bs s)).map fun x => [.v (.string x)] by
  rw [← e, List.map_map]
  exact List.map_congr_left fun x _ => by simp only [Function.comp, eW, bs_data]]
 exact h
theorem join_T (b : Bool) (W : List (List UInt8)) (hN : W.length ≤ 1000000) (hlen : (Lib.join W [32]).length ≤ 140737488355328) : Ctr Tryz.prog 23 [.sl b 1 (W.map eW), (.v (.string (⟨#[32]⟩)))] (fun rr => rr = ⟨(.v (.string (bs (Lib.join W [32])))), []⟩) := by
 have e : (W.map bs).map (·.data.toList) = W := by
  rw [List.map_map]
  conv => rhs; rw [← List.map_id W]
  exact List.map_congr_left fun x _ => bs_toList x
 have h := join_s b (W.map bs) ⟨#[32]⟩ (by simpa using hN) (by rw [e]; exact hlen)
 rw [e, List.map_map] at h
 exact h
theorem cut_join : ∀ (W : List (List UInt8)), W ≠ [] → (∀ w ∈ W, ¬ (32 : UInt8) ∈ w) → cutL 32 [] (Lib.join W [32]) = W
 | [], h, _ => absurd rfl h
 | [w], _, h => by rw [Lib.join_one, cut_miss _ _ (h w (by simp))]; rfl
 | w :: v :: r, _, h => by
  have ih := cut_join (v :: r) (by simp) (fun x hx => h x (List.mem_cons_of_mem _ hx))
  have hj : Lib.join (w :: v :: r) [32] = w ++ 32 :: Lib.join (v :: r) [32] := by
   rw [Lib.join_cons, Lib.join_cons]; simp [Lib.joinTail]
  rw [hj, cut_hit w [] _ (h w (by simp)), ih]; rfl
def runN (x : Run) : List Int := [x.day, x.wanted, x.given, x.ready, x.hour]
def runW (x : Run) : List (List UInt8) := x.job.data.toList :: (runN x).map Lib.itoa ++ x.cols.map (·.data.toList)
def runT (x : Run) : List UInt8 := Lib.join (runW x) [32]
def RunI (x : Run) : Prop := ∀ n ∈ runN x, -9223372036854775808 ≤ n ∧ n ≤ 9223372036854775807
theorem eS_W (s : ByteArray) : eS s = eW s.data.toList := by rw [eS, eW, bs_data]
theorem cols_W (l : List ByteArray) : l.map eS = (l.map (·.data.toList)).map eW := by
 rw [List.map_map]; exact List.map_congr_left fun s _ => eS_W s
theorem join_len : ∀ (W : List (List UInt8)) (m : Nat), (∀ w ∈ W, w.length ≤ m) → (Lib.join W [32]).length ≤ (m + 1) * W.length
 | [], m, _ => by simp [Lib.join]
 | [w], m, h => by
  rw [Lib.join_one]
  have := h w (by simp)
  simp only [List.length_cons, List.length_nil]; omega
 | w :: v :: r, m, h => by
  have ih := join_len (v :: r) m (fun x hx => h x (List.mem_cons_of_mem _ hx))
  have h0 := h w (by simp)
  have hj : Lib.join (w :: v :: r) [32] = w ++ 32 :: Lib.join (v :: r) [32] := by
   rw [Lib.join_cons, Lib.join_cons]; simp [Lib.joinTail]
  rw [hj, List.length_append, List.length_cons, List.length_cons, Nat.mul_succ]
  omega
theorem cutL_mem (c : UInt8) : ∀ (l acc w : List UInt8), w ∈ cutL c acc l → w.length ≤ acc.length + l.length
 | [], acc, w, h => by
  simp only [cutL, List.mem_singleton] at h
  subst h; simp
 | x :: l, acc, w, h => by
  simp only [cutL] at h
  split at h
  ·rcases List.mem_cons.1 h with rfl | h
   ·simp
   ·have := cutL_mem c l [] w h
    simp only [List.length_nil, List.length_cons] at *; omega
  ·have := cutL_mem c l (acc ++ [x]) w h
   simp only [List.length_append, List.length_cons, List.length_nil] at *; omega
end Go.Proofs.YtfojggadhhaleaaGreatDoor
/-
 Chapter 9: a run's text (the program).
-/
namespace Go.Proofs.YtfojggadhhaleaaGreatDoor
open Go Go.Vx
set_option linter.unusedSimpArgs false
set_option linter.unusedVariables false
set_option maxRecDepth 20000
/-- addresses of the numbers of a run that lies at block b. -/
def ptE (b : Nat) : List (List D) := [[.v (.pointer (some ⟨b, 1, none⟩))], [.v (.pointer (some ⟨b, 2, none⟩))], [.v (.pointer (some ⟨b, 3, none⟩))], [.v (.pointer (some ⟨b, 5, none⟩))], [.v (.pointer (some ⟨b, 6, none⟩))]]
def fmW (x : Run) (k : Nat) : List (List UInt8) := x.job.data.toList :: ((runN x).take k).map Lib.itoa
set_option maxHeartbeats 4000000 in
theorem formatRun_s (b : Bool) (x : Run) (hx : RunI x) (hc : x.cols.length ≤ 1000) (hj : x.job.size ≤ 1000) (hs : ∀ s ∈ x.cols, s.size ≤ 1000) : CtrK glob Tryz.prog 6 [rV b x] (fun rr => rr = ⟨(.v (.string (bs (runT x)))), []⟩) := by
 have encs := And.intro encs eW_def
 refine CtrK.of (rs := [.tmp 2]) Tok true Tryz.func6 rfl rfl rfl rfl (by simp [ofDL]) (fun w0 kp hgl => ?_)
 simp only [↓sx0, sxE, encs, sevalprocAttr]
 refine CallI.bxa 0 (by simp) fun β => ?_
 refine CallI.inlG (rs := [.tmp 2]) Tok (fun h => by first | cases h; done | rfl) Tryz.func21 rfl rfl rfl rfl (by simp) (fun ρ σ μ fr lp => ?_) (by refine ⟨_, ?_, rfl⟩; rfl)
 simp only [↓sx0, sxE, encs, sevalprocAttr]
 refine DrawW.plan Tok mixed (.q 0 <| .q 1 <| .q 2 <| .q 3 <| .q 4 <| .q 5 <| .q 6 <| .q 7 <| .q 8 <| .q 9 <| .q 10 <| .q 11 <| .q 12 <| .q 13 <| .q 14 <| .e 15 [] <| .q 16 <| .done) (by kernel_rfl) (by kernel_rfl) ?_
 simp only [↓sx0, sxE, encs, sevalprocAttr]
 have hW0 : [[D.v (.string x.job)]] = (fmW x 0).map eW := by simp [fmW, eW, bs_data]
 have hN : ∀ k (h : k < 5), ∃ n, (runN x)[k]? = some n ∧ (-9223372036854775808 ≤ n ∧ n ≤ 9223372036854775807) := fun k h => by
  have hk : k < (runN x).length := h
  exact ⟨(runN x)[k], List.getElem?_eq_getElem hk, hx _ (List.getElem_mem hk)⟩
 have hS : ∀ k (n : Int), (runN x)[k]? = some n → fmW x (k + 1) = fmW x k ++ [Lib.itoa n] := fun k n h => by
  rw [fmW, fmW, List.take_add_one, h]; simp
 have hL : ∀ k, k ≤ 5 → (fmW x k).length = k + 1 := fun k h => by
  have : (runN x).length = 5 := rfl
  simp [fmW, this, h]
 rw [hW0]
 skip
 refine LoopW.comp [1, 3, 9, 10, 11, 1000000] (by simp only [sx2, encs, sxR, sevalprocAttr] <;> (try simp) <;> (try omega)) ?_
 simp only [sx2, sxR, sevalprocAttr]
 refine LoopW.up Tok (fun k : Nat => [(3, .row 0), (11, (.v (.int .i64 ((k : Int)))))]) (fun k => []) (fun k => [(0, (fmW x k).map eW)]) (fun k => []) (fun k => k ≤ 5) (fun k => 5 - k) (0) (by simp only [sx2, encs, sxR, sevalprocAttr] <;> (try simp) <;> (try omega)) ?_ ?_
 ·omega
 rintro k hk
 simp only [↓sx0, sxE, encs, sevalprocAttr]
 refine BrW.dec (fun hlt => ?_) (fun hlt => ?_)
 ·have h5 : k = 0 ∨ k = 1 ∨ k = 2 ∨ k = 3 ∨ k = 4 := by omega
  have hlk := hL k hk
  obtain ⟨n, hn, hnb⟩ := hN k (by omega)
  have hsk := hS k n hn
  have hio := itoa_s n hnb.1 hnb.2
  have hil := itoa_len hnb
  rcases h5 with rfl | rfl | rfl | rfl | rfl
  ·cases hn
   simp only [↓sx0, sxE, encs, sevalprocAttr]
   repeat ((with_reducible refine Vc.go ?_ fun _ => ?_); (focus (first | omega | (simp only [InK]; omega) | (simp [InK]; done) | (simp [InK]; omega))); simp only [↓sx0, sxE, encs, sevalprocAttr])
   refine ⟨by decide, _, rfl, ?_⟩
   simp only [↓sx0, sxE, encs, sevalprocAttr]
   refine CallI.fnK (hio) glob_ok hgl rfl (by simp only [sx3, encs, sxR, sevalprocAttr] <;> (try simp) <;> (try rfl)) ?_
   simp only [↓sx0, sxE, encs, sevalprocAttr]
   repeat ((with_reducible refine Vc.go ?_ fun _ => ?_); (focus (first | omega | (simp only [InK]; omega) | (simp [InK]; done) | (simp [InK]; omega))); simp only [↓sx0, sxE, encs, sevalprocAttr])
   refine ⟨1, StLe.auto (by simp only [sx2, encs, sxR, sevalprocAttr] <;> (try simp [hsk, eW, bs, encs]) <;> (try omega)), ?_, ?_⟩
   all_goals omega
  ·cases hn
   simp only [↓sx0, sxE, encs, sevalprocAttr]
   repeat ((with_reducible refine Vc.go ?_ fun _ => ?_); (focus (first | omega | (simp only [InK]; omega) | (simp [InK]; done) | (simp [InK]; omega))); simp only [↓sx0, sxE, encs, sevalprocAttr])
   refine ⟨by decide, _, rfl, ?_⟩
   simp only [↓sx0, sxE, encs, sevalprocAttr]
   refine CallI.fnK (hio) glob_ok hgl rfl (by simp only [sx3, encs, sxR, sevalprocAttr] <;> (try simp) <;> (try rfl)) ?_
   simp only [↓sx0, sxE, encs, sevalprocAttr]
   repeat ((with_reducible refine Vc.go ?_ fun _ => ?_); (focus (first | omega | (simp only [InK]; omega) | (simp [InK]; done) | (simp [InK]; omega))); simp only [↓sx0, sxE, encs, sevalprocAttr])
   refine ⟨2, StLe.auto (by simp only [sx2, encs, sxR, sevalprocAttr] <;> (try simp [hsk, eW, bs, encs]) <;> (try omega)), ?_, ?_⟩
   all_goals omega
  ·cases hn
   simp only [↓sx0, sxE, encs, sevalprocAttr]
   repeat ((with_reducible refine Vc.go ?_ fun _ => ?_); (focus (first | omega | (simp only [InK]; omega) | (simp [InK]; done) | (simp [InK]; omega))); simp only [↓sx0, sxE, encs, sevalprocAttr])
   refine ⟨by decide, _, rfl, ?_⟩
   simp only [↓sx0, sxE, encs, sevalprocAttr]
   refine CallI.fnK (hio) glob_ok hgl rfl (by simp only [sx3, encs, sxR, sevalprocAttr] <;> (try simp) <;> (try rfl)) ?_
   simp only [↓sx0, sxE, encs, sevalprocAttr]
   repeat ((with_reducible refine Vc.go ?_ fun _ => ?_); (focus (first | omega | (simp only [InK]; omega) | (simp [InK]; done) | (simp [InK]; omega))); simp only [↓sx0, sxE, encs, sevalprocAttr])
   refine ⟨3, StLe.auto (by simp only [sx2, encs, sxR, sevalprocAttr] <;> (try simp [hsk, eW, bs, encs]) <;> (try omega)), ?_, ?_⟩
   all_goals omega
  ·cases hn
   simp only [↓sx0, sxE, encs, sevalprocAttr]
   repeat ((with_reducible refine Vc.go ?_ fun _ => ?_); (focus (first | omega | (simp only [InK]; omega) | (simp [InK]; done) | (simp [InK]; omega))); simp only [↓sx0, sxE, encs, sevalprocAttr])
   refine ⟨by decide, _, rfl, ?_⟩
   simp only [↓sx0, sxE, encs, sevalprocAttr]
   refine CallI.fnK (hio) glob_ok hgl rfl (by simp only [sx3, encs, sxR, sevalprocAttr] <;> (try simp) <;> (try rfl)) ?_
   simp only [↓sx0, sxE, encs, sevalprocAttr]
   repeat ((with_reducible refine Vc.go ?_ fun _ => ?_); (focus (first | omega | (simp only [InK]; omega) | (simp [InK]; done) | (simp [InK]; omega))); simp only [↓sx0, sxE, encs, sevalprocAttr])
   refine ⟨4, StLe.auto (by simp only [sx2, encs, sxR, sevalprocAttr] <;> (try simp [hsk, eW, bs, encs]) <;> (try omega)), ?_, ?_⟩
   all_goals omega
  ·cases hn
   simp only [↓sx0, sxE, encs, sevalprocAttr]
   repeat ((with_reducible refine Vc.go ?_ fun _ => ?_); (focus (first | omega | (simp only [InK]; omega) | (simp [InK]; done) | (simp [InK]; omega))); simp only [↓sx0, sxE, encs, sevalprocAttr])
   refine ⟨by decide, _, rfl, ?_⟩
   simp only [↓sx0, sxE, encs, sevalprocAttr]
   refine CallI.fnK (hio) glob_ok hgl rfl (by simp only [sx3, encs, sxR, sevalprocAttr] <;> (try simp) <;> (try rfl)) ?_
   simp only [↓sx0, sxE, encs, sevalprocAttr]
   repeat ((with_reducible refine Vc.go ?_ fun _ => ?_); (focus (first | omega | (simp only [InK]; omega) | (simp [InK]; done) | (simp [InK]; omega))); simp only [↓sx0, sxE, encs, sevalprocAttr])
   refine ⟨5, StLe.auto (by simp only [sx2, encs, sxR, sevalprocAttr] <;> (try simp [hsk, eW, bs, encs]) <;> (try omega)), ?_, ?_⟩
   all_goals omega
 ·have hk5 : k = 5 := by omega
  subst hk5
  have hrw : (fmW x 5).map eW ++ x.cols.map eS = (runW x).map eW := by
   rw [cols_W, ← List.map_append]; rfl
  have hRl : (runW x).length = x.cols.length + 6 := by simp [runW, runN]
  have hTl : (runT x).length ≤ 1001 * (x.cols.length + 6) := by
   have := join_len (runW x) 1000 (fun w hw => by
    simp only [runW, List.cons_append, List.mem_cons, List.mem_append, List.mem_map] at hw
    rcases hw with rfl | ⟨n, hn, rfl⟩ | ⟨s, h1, rfl⟩
    ·exact hj
    ·have := itoa_len (hx n hn); omega
    ·exact hs s h1)
   rw [hRl] at this; exact this
  have hl5 := hL 5 (by omega)
  have hjn := join_T false (runW x) (by omega) (by show (runT x).length ≤ _; omega)
  simp only [↓sx0, sxE, encs, sevalprocAttr]
  repeat ((with_reducible refine Vc.go ?_ fun _ => ?_); (focus (first | omega | (simp only [InK]; omega) | (simp [InK]; done) | (simp [InK]; omega))); simp only [↓sx0, sxE, encs, sevalprocAttr])
  rw [hrw]
  refine CallI.fn (hjn) (by simp only [sx3, encs, sxR, sevalprocAttr] <;> (try simp) <;> (try rfl)) ?_
  simp only [↓sx0, sxE, encs, sevalprocAttr]
  refine EndW.fn ?_ ?_ <;> simp only [sx4, encs, kpLL_map, sxR, sevalprocAttr] <;> (try simp [runT]) <;> (try omega)
end Go.Proofs.YtfojggadhhaleaaGreatDoor
/-
 Chapter 9: a run's text (the reference).
-/
namespace Go.Proofs.YtfojggadhhaleaaGreatDoor
open Go Go.Vx
set_option linter.unusedSimpArgs false
set_option linter.unusedVariables false
set_option maxRecDepth 20000
theorem join_ne (W : List (List UInt8)) (y : List UInt8) (h : W ≠ []) : Lib.join (W ++ [y]) [32] = Lib.join W [32] ++ (32 :: y) := by
 rw [join_snoc, if_neg h]; simp
def fmU (x : Run) (k : Nat) : List UInt8 := Lib.join (fmW x k) [32]
def fmV (x : Run) (k : Nat) : List UInt8 := Lib.join (fmW x 5 ++ (x.cols.take k).map (·.data.toList)) [32]
theorem sp_size : (⟨#[32]⟩ : ByteArray).size = 1 := rfl
theorem bs_sp (a b : List UInt8) : bs a ++ (⟨#[32]⟩ : ByteArray) ++ bs b = bs (a ++ 32 :: b) := by
 rw [show (⟨#[32]⟩ : ByteArray) = bs [32] from rfl, bs_add, bs_add]; simp
set_option maxHeartbeats 4000000 in
theorem formatRun_R (b : Bool) (x : Run) (hx : RunI x) (hc : x.cols.length ≤ 1000) (hj : x.job.size ≤ 1000) (hs : ∀ s ∈ x.cols, s.size ≤ 1000) : Ctr Tryz.prog 10 [rV b x] (fun rr => rr = ⟨(.v (.string (bs (runT x)))), []⟩) := by
 have hU0 : x.job = bs (fmU x 0) := by rw [fmU, fmW]; simp [Lib.join_one, bs_data]
 have hUn : ∀ k (n : Int), (runN x)[k]? = some n → fmU x (k + 1) = fmU x k ++ 32 :: Lib.itoa n := fun k n h => by
  rw [fmU, fmW, List.take_add_one, h, Option.toList_some, List.map_append, ← List.cons_append]
  exact join_ne _ _ (by simp)
 have hWl : ∀ k w, w ∈ fmW x k → w.length ≤ 1000 := fun k w hw => by
  rcases List.mem_cons.1 hw with rfl | hw
  ·exact hj
  ·obtain ⟨n, hn, rfl⟩ := List.mem_map.1 hw
   have := itoa_len (hx n (List.mem_of_mem_take hn)); omega
 have hUl : ∀ k, k ≤ 5 → (fmU x k).length ≤ 6006 := fun k hk => by
  have h := join_len (fmW x k) 1000 (hWl k)
  have : (fmW x k).length = k + 1 := by
   have : (runN x).length = 5 := rfl
   simp [fmW, this, hk]
  rw [this] at h
  have : (fmU x k).length ≤ 1001 * (k + 1) := h
  omega
 have hV0 : fmU x 5 = fmV x 0 := by simp [fmU, fmV]
 have hVn : ∀ k (h : k < x.cols.length), fmV x (k + 1) = fmV x k ++ 32 :: x.cols[k].data.toList := fun k h => by
  rw [fmV, List.take_succ_eq_append_getElem h, List.map_append, ← List.append_assoc]
  exact join_ne _ _ (by simp [fmW])
 have hVe : fmV x x.cols.length = runT x := by rw [fmV, List.take_length]; rfl
 have hVl : ∀ k, k ≤ x.cols.length → (fmV x k).length ≤ 1001 * 1006 := fun k hk => by
  have h := join_len (fmW x 5 ++ (x.cols.take k).map (·.data.toList)) 1000 (fun w hw => by
   rcases List.mem_append.1 hw with hw | hw
   ·exact hWl 5 w hw
   ·obtain ⟨s, h1, rfl⟩ := List.mem_map.1 hw
    exact hs s (List.mem_of_mem_take h1))
  have : (fmW x 5 ++ (x.cols.take k).map (·.data.toList)).length ≤ 1006 := by
   have : (runN x).length = 5 := rfl
   simp [fmW, this]; omega
  have h2 : (fmV x k).length ≤ 1001 * (fmW x 5 ++ (x.cols.take k).map (·.data.toList)).length := h
  omega
 refine Ctr.of (rs := [.tmp 2]) Tok true Tryz.func10 rfl rfl rfl rfl (by simp [ofDL]) (fun w0 kp => ?_)
 simp only [↓sx0, sxE, encs, sevalprocAttr]
 refine LoopW.comp [1, 3, 4, 5] (by simp only [sx2, encs, sxR, sevalprocAttr] <;> (try simp) <;> (try omega)) ?_
 simp only [sx2, sxR, sevalprocAttr]
 refine LoopW.up Tok (fun k : Nat => [(3, (.v (.string (bs (fmU x k))))), (5, (.v (.int .i64 ((k : Int)))))]) (fun k => []) (fun k => []) (fun k => []) (fun k => k ≤ 5) (fun k => 5 - k) (0) (by simp only [sx2, encs, sxR, sevalprocAttr] <;> (try simp [← hU0, encs]) <;> (try omega)) ?_ ?_
 ·omega
 rintro k hk
 simp only [↓sx0, sxE, encs, sevalprocAttr]
 refine BrW.dec (fun hlt => ?_) (fun hlt => ?_)
 ·have h5 : k = 0 ∨ k = 1 ∨ k = 2 ∨ k = 3 ∨ k = 4 := by omega
  have hul := hUl k hk
  obtain ⟨n, hn, hnb⟩ : ∃ n, (runN x)[k]? = some n ∧ (-9223372036854775808 ≤ n ∧ n ≤ 9223372036854775807) := by
   have hkl : k < (runN x).length := by
    have : (runN x).length = 5 := rfl
    omega
   exact ⟨(runN x)[k], List.getElem?_eq_getElem hkl, hx _ (List.getElem_mem hkl)⟩
  have hsk := hUn k n hn
  have hdc := decimal_s n hnb.1 hnb.2
  have hil := itoa_len hnb
  generalize hgi : Lib.itoa n = it at hsk hdc hil
  rcases h5 with rfl | rfl | rfl | rfl | rfl
  ·cases hn
   simp only [↓sx0, sxE, encs, sevalprocAttr]
   repeat ((with_reducible refine Vc.go ?_ fun _ => ?_); (focus (first | omega | (simp only [InK]; omega) | (simp [ByteArray.size_append, bs_size, sp_size, InK]; done) | (simp [ByteArray.size_append, bs_size, sp_size, InK]; omega))); simp only [↓sx0, sxE, encs, sevalprocAttr])
   refine CallI.fn (hdc) (by simp only [sx3, encs, sxR, sevalprocAttr] <;> (try simp) <;> (try rfl)) ?_
   simp only [↓sx0, sxE, encs, sevalprocAttr]
   repeat ((with_reducible refine Vc.go ?_ fun _ => ?_); (focus (first | omega | (simp only [InK]; omega) | (simp [ByteArray.size_append, bs_size, sp_size, InK]; done) | (simp [ByteArray.size_append, bs_size, sp_size, InK]; omega))); simp only [↓sx0, sxE, encs, sevalprocAttr])
   refine ⟨1, StLe.auto (by simp only [sx2, encs, sxR, sevalprocAttr] <;> (try simp [hsk, ← bs_sp, encs]) <;> (try omega)), ?_, ?_⟩
   all_goals omega
  ·cases hn
   simp only [↓sx0, sxE, encs, sevalprocAttr]
   repeat ((with_reducible refine Vc.go ?_ fun _ => ?_); (focus (first | omega | (simp only [InK]; omega) | (simp [ByteArray.size_append, bs_size, sp_size, InK]; done) | (simp [ByteArray.size_append, bs_size, sp_size, InK]; omega))); simp only [↓sx0, sxE, encs, sevalprocAttr])
   refine CallI.fn (hdc) (by simp only [sx3, encs, sxR, sevalprocAttr] <;> (try simp) <;> (try rfl)) ?_
   simp only [↓sx0, sxE, encs, sevalprocAttr]
   repeat ((with_reducible refine Vc.go ?_ fun _ => ?_); (focus (first | omega | (simp only [InK]; omega) | (simp [ByteArray.size_append, bs_size, sp_size, InK]; done) | (simp [ByteArray.size_append, bs_size, sp_size, InK]; omega))); simp only [↓sx0, sxE, encs, sevalprocAttr])
   refine ⟨2, StLe.auto (by simp only [sx2, encs, sxR, sevalprocAttr] <;> (try simp [hsk, ← bs_sp, encs]) <;> (try omega)), ?_, ?_⟩
   all_goals omega
  ·cases hn
   simp only [↓sx0, sxE, encs, sevalprocAttr]
   repeat ((with_reducible refine Vc.go ?_ fun _ => ?_); (focus (first | omega | (simp only [InK]; omega) | (simp [ByteArray.size_append, bs_size, sp_size, InK]; done) | (simp [ByteArray.size_append, bs_size, sp_size, InK]; omega))); simp only [↓sx0, sxE, encs, sevalprocAttr])
   refine CallI.fn (hdc) (by simp only [sx3, encs, sxR, sevalprocAttr] <;> (try simp) <;> (try rfl)) ?_
   simp only [↓sx0, sxE, encs, sevalprocAttr]
   repeat ((with_reducible refine Vc.go ?_ fun _ => ?_); (focus (first | omega | (simp only [InK]; omega) | (simp [ByteArray.size_append, bs_size, sp_size, InK]; done) | (simp [ByteArray.size_append, bs_size, sp_size, InK]; omega))); simp only [↓sx0, sxE, encs, sevalprocAttr])
   refine ⟨3, StLe.auto (by simp only [sx2, encs, sxR, sevalprocAttr] <;> (try simp [hsk, ← bs_sp, encs]) <;> (try omega)), ?_, ?_⟩
   all_goals omega
  ·cases hn
   simp only [↓sx0, sxE, encs, sevalprocAttr]
   repeat ((with_reducible refine Vc.go ?_ fun _ => ?_); (focus (first | omega | (simp only [InK]; omega) | (simp [ByteArray.size_append, bs_size, sp_size, InK]; done) | (simp [ByteArray.size_append, bs_size, sp_size, InK]; omega))); simp only [↓sx0, sxE, encs, sevalprocAttr])
   refine CallI.fn (hdc) (by simp only [sx3, encs, sxR, sevalprocAttr] <;> (try simp) <;> (try rfl)) ?_
   simp only [↓sx0, sxE, encs, sevalprocAttr]
   repeat ((with_reducible refine Vc.go ?_ fun _ => ?_); (focus (first | omega | (simp only [InK]; omega) | (simp [ByteArray.size_append, bs_size, sp_size, InK]; done) | (simp [ByteArray.size_append, bs_size, sp_size, InK]; omega))); simp only [↓sx0, sxE, encs, sevalprocAttr])
   refine ⟨4, StLe.auto (by simp only [sx2, encs, sxR, sevalprocAttr] <;> (try simp [hsk, ← bs_sp, encs]) <;> (try omega)), ?_, ?_⟩
   all_goals omega
  ·cases hn
   simp only [↓sx0, sxE, encs, sevalprocAttr]
   repeat ((with_reducible refine Vc.go ?_ fun _ => ?_); (focus (first | omega | (simp only [InK]; omega) | (simp [ByteArray.size_append, bs_size, sp_size, InK]; done) | (simp [ByteArray.size_append, bs_size, sp_size, InK]; omega))); simp only [↓sx0, sxE, encs, sevalprocAttr])
   refine CallI.fn (hdc) (by simp only [sx3, encs, sxR, sevalprocAttr] <;> (try simp) <;> (try rfl)) ?_
   simp only [↓sx0, sxE, encs, sevalprocAttr]
   repeat ((with_reducible refine Vc.go ?_ fun _ => ?_); (focus (first | omega | (simp only [InK]; omega) | (simp [ByteArray.size_append, bs_size, sp_size, InK]; done) | (simp [ByteArray.size_append, bs_size, sp_size, InK]; omega))); simp only [↓sx0, sxE, encs, sevalprocAttr])
   refine ⟨5, StLe.auto (by simp only [sx2, encs, sxR, sevalprocAttr] <;> (try simp [hsk, ← bs_sp, encs]) <;> (try omega)), ?_, ?_⟩
   all_goals omega
 ·have hk5 : k = 5 := by omega
  subst hk5
  simp only [↓sx0, sxE, encs, sevalprocAttr]
  rw [hV0]
  refine LoopW.comp [1, 3, 6] (by simp only [sx2, encs, sxR, sevalprocAttr] <;> (try simp) <;> (try omega)) ?_
  simp only [sx2, sxR, sevalprocAttr]
  refine LoopW.up Tok (fun k : Nat => [(3, (.v (.string (bs (fmV x k))))), (6, (.v (.int .i64 ((k : Int)))))]) (fun k => []) (fun k => []) (fun k => []) (fun k => k ≤ x.cols.length) (fun k => x.cols.length - k) (0) (by simp only [sx2, encs, sxR, sevalprocAttr] <;> (try simp) <;> (try omega)) ?_ ?_
  ·omega
  rintro k hk
  simp only [↓sx0, sxE, encs, sevalprocAttr]
  refine BrW.dec (fun hlt => ?_) (fun hlt => ?_)
  ·have hkl : k < x.cols.length := by omega
   have hvl := hVl k hk
   have hvn := hVn k hkl
   have hsz : x.cols[k].data.toList.length ≤ 1000 := hs _ (List.getElem_mem hkl)
   simp only [↓sx0, sxE, encs, sevalprocAttr]
   repeat ((with_reducible refine Vc.go ?_ fun _ => ?_); (focus (first | omega | (simp only [InK]; omega) | (simp [ByteArray.size_append, bs_size, sp_size, InK]; done) | (simp [ByteArray.size_append, bs_size, sp_size, InK]; omega))); simp only [↓sx0, sxE, encs, sevalprocAttr])
   refine IxW.nat hkl ?_
   have hbd : x.cols[k] = bs x.cols[k].data.toList := (bs_data _).symm
   generalize x.cols[k].data.toList = q at hvn hsz hbd
   simp only [hbd]
   simp only [↓sx0, sxE, encs, sevalprocAttr]
   repeat ((with_reducible refine Vc.go ?_ fun _ => ?_); (focus (first | omega | (simp only [InK]; omega) | (simp [ByteArray.size_append, bs_size, sp_size, InK]; done) | (simp [ByteArray.size_append, bs_size, sp_size, InK]; omega))); simp only [↓sx0, sxE, encs, sevalprocAttr])
   refine ⟨k + 1, StLe.auto (by simp only [sx2, encs, sxR, sevalprocAttr] <;> (try simp [hvn, ← bs_sp, encs]) <;> (try omega)), ?_, ?_⟩
   all_goals omega
  ·have hke : k = x.cols.length := by omega
   subst hke
   rw [hVe]
   simp only [↓sx0, sxE, encs, sevalprocAttr]
   refine EndW.fn ?_ ?_ <;> simp only [sx4, encs, kpLL_map, sxR, sevalprocAttr] <;> (try simp) <;> (try omega)
end Go.Proofs.YtfojggadhhaleaaGreatDoor
/-
  Chapter 9, walks: small ones.
-/
namespace Go.Proofs.YtfojggadhhaleaaGreatDoor
open Go Go.Vx
set_option linter.unusedSimpArgs false
set_option maxRecDepth 20000
theorem within_s (n lo hi : Int) : Ctr Tryz.prog 36 [(.v (.int .i64 n)), (.v (.int .i64 lo)), (.v (.int .i64 hi))] (fun rr => rr = ⟨(.v (.bool (decide (lo ≤ n ∧ n ≤ hi)))), []⟩) := by
  refine Ctr.of (rs := [.tmp 6]) Tok true Tryz.func36 rfl rfl rfl rfl (by simp [ofDL]) (fun w0 kp => ?_)
  simp only [↓sx0, sxE, encs, sevalprocAttr]
  refine BrW.dec (fun h => ?_) (fun h => ?_)
  · simp only [↓sx0, sxE, encs, sevalprocAttr]
    refine EndW.fn ?_ ?_ <;> simp only [sx4, encs, kpLL_map, sxR, sevalprocAttr] <;> (try simp [h]) <;> (try omega)
  · simp only [↓sx0, sxE, encs, sevalprocAttr]
    refine EndW.fn ?_ ?_ <;> simp only [sx4, encs, kpLL_map, sxR, sevalprocAttr] <;> (try simp [h]) <;> (try omega)
theorem withinB_s (n lo hi : Int) : Ctr Tryz.prog 34 [(.v (.int .i64 n)), (.v (.int .i64 lo)), (.v (.int .i64 hi))] (fun rr => rr = ⟨(.v (.bool (decide (lo ≤ n ∧ n ≤ hi)))), []⟩) := by
  refine Ctr.of (rs := [.tmp 6]) Tok true Tryz.func34 rfl rfl rfl rfl (by simp [ofDL]) (fun w0 kp => ?_)
  simp only [↓sx0, sxE, encs, sevalprocAttr]
  refine BrW.dec (fun h => ?_) (fun h => ?_)
  · simp only [↓sx0, sxE, encs, sevalprocAttr]
    refine EndW.fn ?_ ?_ <;> simp only [sx4, encs, kpLL_map, sxR, sevalprocAttr] <;> (try simp [h]) <;> (try omega)
  · simp only [↓sx0, sxE, encs, sevalprocAttr]
    refine EndW.fn ?_ ?_ <;> simp only [sx4, encs, kpLL_map, sxR, sevalprocAttr] <;> (try simp [h]) <;> (try omega)
theorem isMinutes_s (n : Int) : Ctr Tryz.prog 62 [(.v (.int .i64 n))] (fun rr => rr = ⟨(.v (.bool (decide (0 ≤ n ∧ n ≤ 10000)))), []⟩) := by
  refine Ctr.of (rs := [.tmp 2]) Tok true Tryz.func62 rfl rfl rfl rfl (by simp [ofDL]) (fun w0 kp => ?_)
  simp only [↓sx0, sxE, encs, sevalprocAttr]
  refine CallI.fn (within_s n 0 10000) (by simp only [sx3, encs, sxR, sevalprocAttr] <;> (try simp) <;> (try rfl)) ?_
  simp only [↓sx0, sxE, encs, sevalprocAttr]
  refine EndW.fn ?_ ?_ <;> simp only [sx4, encs, kpLL_map, sxR, sevalprocAttr] <;> (try simp) <;> (try omega)
theorem up_s (n d : Int) (h0 : 0 ≤ n) (h1 : n ≤ 1000000000000000) (h2 : 1 ≤ d) (h3 : d ≤ 1000000) : Ctr Tryz.prog 37 [(.v (.int .i64 n)), (.v (.int .i64 d))] (fun rr => rr = ⟨(.v (.int .i64 ((n + d - 1) / d))), []⟩) := by
  refine Ctr.of (rs := [.tmp 4]) Tok true Tryz.func37 rfl rfl rfl rfl (by simp [ofDL]) (fun w0 kp => ?_)
  simp only [↓sx0, sxE, encs, sevalprocAttr]
  (with_reducible refine Vc.go ?_ fun _ => ?_); focus (first | omega | (simp only [InK]; omega) | (simp [InK]; done) | (simp [InK]; omega))
  simp only [↓sx0, sxE, encs, sevalprocAttr]
  (with_reducible refine Vc.go ?_ fun _ => ?_); focus (first | omega | (simp only [InK]; omega) | (simp [InK]; done) | (simp [InK]; omega))
  simp only [↓sx0, sxE, encs, sevalprocAttr]
  have e : (n + d - 1).tdiv d = (n + d - 1) / d := Int.tdiv_eq_ediv_of_nonneg (by omega)
  have b1 : (n + d - 1) / d ≤ n + d - 1 := Int.ediv_le_self _ (by omega)
  have b2 : 0 ≤ (n + d - 1) / d := Int.ediv_nonneg (by omega) (by omega)
  rw [e]
  (with_reducible refine Vc.go ?_ fun _ => ?_); focus (first | omega | (simp only [InK]; omega) | (simp [InK]; done) | (simp [InK]; omega))
  simp only [↓sx0, sxE, encs, sevalprocAttr]
  refine EndW.fn ?_ ?_ <;> simp only [sx4, encs, kpLL_map, sxR, sevalprocAttr] <;> (try simp [e]) <;> (try omega)
end Go.Proofs.YtfojggadhhaleaaGreatDoor
/-
  Chapter 9, walks: names, and what stands in lists.
-/
namespace Go.Proofs.YtfojggadhhaleaaGreatDoor
open Go Go.Vx
set_option linter.unusedSimpArgs false
set_option maxRecDepth 20000
theorem bytesD_eq (s : ByteArray) : bytesD s = s.data.toList.map fun b => [.v (.int .u8 (b.toNat : Int))] := rfl
theorem bytesD_len (s : ByteArray) : (bytesD s).length = s.size := by simp [bytesD]
theorem isName_s (s : ByteArray) : Ctr Tryz.prog 60 [(.v (.string (s)))] (fun rr => rr = ⟨(.v (.bool (isNm s))), []⟩) := by
  refine Ctr.of (rs := [.tmp 2]) Tok true Tryz.func60 rfl rfl rfl rfl (by simp [ofDL]) (fun w0 kp => ?_)
  simp only [↓sx0, sxE, encs, sevalprocAttr]
  have fls : s.size = 0 ∨ 12 < s.size → isNm s = false := fun h => by
    rw [← Bool.not_eq_true, isNm_iff]; omega
  refine BrW.dec (fun h => ?_) (fun h => ?_)
  · simp only [↓sx0, sxE, encs, sevalprocAttr]
    have := fls (.inl (size_zero.1 h))
    refine EndW.fn ?_ ?_ <;> simp only [sx4, encs, kpLL_map, sxR, sevalprocAttr] <;> (try simp [this]) <;> (try omega)
  · simp only [↓sx0, sxE, encs, sevalprocAttr]
    have h0 : s.size ≠ 0 := fun e => h (size_zero.2 e)
    refine BrW.dec (fun h2 => ?_) (fun h2 => ?_)
    · simp only [↓sx0, sxE, encs, sevalprocAttr]
      have := fls (.inr (by omega))
      refine EndW.fn ?_ ?_ <;> simp only [sx4, encs, kpLL_map, sxR, sevalprocAttr] <;> (try simp [this]) <;> (try omega)
    · simp only [↓sx0, sxE, encs, sevalprocAttr]
      rw [bytesD_len]
      refine LoopW.comp [13, 14, 15] (by simp only [sx2, encs, sxR, sevalprocAttr] <;> (try simp) <;> (try omega)) ?_
      simp only [sx2, sxR, sevalprocAttr]
      refine LoopW.up Tok (fun k : Nat => [(15, (.v (.int .i64 k)))]) (fun k => []) (fun k => []) (fun k => []) (fun k => k ≤ s.size ∧ okTo s.data.toList k) (fun k => s.size - k) (0) (by simp only [sx2, encs, sxR, sevalprocAttr] <;> (try simp) <;> (try omega)) ?_ ?_
      · exact ⟨by omega, okTo_zero _⟩
      rintro k ⟨hk, ht⟩
      simp only [↓sx0, sxE, encs, sevalprocAttr]
      refine BrW.dec (fun hlt => ?_) (fun hlt => ?_)
      · simp only [↓sx0, sxE, encs, sevalprocAttr]
        have hlt : k < s.size := by omega
        have hl : k < s.data.toList.length := by simpa using hlt
        rw [bytesD_eq]
        refine IxW.nat hl ?_
        simp only [↓sx0, sxE, encs, sevalprocAttr]
        have nxt : okB s.data.toList[k] k = true → k + 1 ≤ s.size ∧ okTo s.data.toList (k + 1) := fun hc => ⟨by omega, okTo_succ ht hl hc⟩
        have bad : okB s.data.toList[k] k = false → isNm s = false := fun hc => by
          rw [← Bool.not_eq_true, isNm_iff]
          rintro ⟨_, _, h4⟩
          have := h4 k _ hlt (List.getElem?_eq_getElem hl)
          rw [hc] at this; cases this
        generalize hcc : s.data.toList[k] = c at nxt bad ⊢
        clear hcc
        repeat' (refine BrW.dec (fun _ => ?_) (fun _ => ?_) <;> simp only [↓sx0, sxE, encs, sevalprocAttr])
        all_goals first
          | (have hb : okB c k = false := by
               simp only [okB, decide_eq_false_iff_not]
               omega
             have := bad hb
             refine EndW.fn ?_ ?_ <;> simp only [sx4, encs, kpLL_map, sxR, sevalprocAttr] <;> (try simp [this]) <;> (try omega))
          | (skip
             (with_reducible refine Vc.go ?_ fun _ => ?_); focus (first | omega | (simp only [InK]; omega) | (simp [InK]; done) | (simp [InK]; omega))
             simp only [↓sx0, sxE, encs, sevalprocAttr]
             refine ⟨k + 1, StLe.auto (by simp only [sx2, encs, sxR, sevalprocAttr] <;> (try simp) <;> (try omega)), ?_, ?_⟩
             · refine nxt ?_
               simp only [okB, decide_eq_true_eq]
               omega
             · omega)
      · simp only [↓sx0, sxE, encs, sevalprocAttr]
        have hke : k = s.size := by omega
        subst hke
        have : isNm s = true := isNm_iff.2 ⟨h0, by omega, ht⟩
        refine EndW.fn ?_ ?_ <;> simp only [sx4, encs, kpLL_map, sxR, sevalprocAttr] <;> (try simp [this]) <;> (try omega)
theorem isNameB_s (s : ByteArray) : Ctr Tryz.prog 33 [(.v (.string (s)))] (fun rr => rr = ⟨(.v (.bool (isNm s))), []⟩) := by
  refine Ctr.of (rs := [.tmp 2]) Tok true Tryz.func33 rfl rfl rfl rfl (by simp [ofDL]) (fun w0 kp => ?_)
  simp only [↓sx0, sxE, encs, sevalprocAttr]
  have fls : s.size = 0 ∨ 12 < s.size → isNm s = false := fun h => by
    rw [← Bool.not_eq_true, isNm_iff]; omega
  refine BrW.dec (fun h => ?_) (fun h => ?_)
  · simp only [↓sx0, sxE, encs, sevalprocAttr]
    have := fls (.inl (by omega))
    refine EndW.fn ?_ ?_ <;> simp only [sx4, encs, kpLL_map, sxR, sevalprocAttr] <;> (try simp [this]) <;> (try omega)
  · simp only [↓sx0, sxE, encs, sevalprocAttr]
    have h0 : s.size ≠ 0 := fun e => h (by omega)
    refine BrW.dec (fun h2 => ?_) (fun h2 => ?_)
    · simp only [↓sx0, sxE, encs, sevalprocAttr]
      have := fls (.inr (by omega))
      refine EndW.fn ?_ ?_ <;> simp only [sx4, encs, kpLL_map, sxR, sevalprocAttr] <;> (try simp [this]) <;> (try omega)
    · simp only [↓sx0, sxE, encs, sevalprocAttr]
      refine LoopW.comp [0, 3] (by simp only [sx2, encs, sxR, sevalprocAttr] <;> (try simp) <;> (try omega)) ?_
      simp only [sx2, sxR, sevalprocAttr]
      refine LoopW.up Tok (fun k : Nat => [(3, (.v (.int .i64 k)))]) (fun k => []) (fun k => []) (fun k => []) (fun k => k ≤ s.size ∧ okTo s.data.toList k) (fun k => s.size - k) (0) (by simp only [sx2, encs, sxR, sevalprocAttr] <;> (try simp) <;> (try omega)) ?_ ?_
      · exact ⟨by omega, okTo_zero _⟩
      rintro k ⟨hk, ht⟩
      simp only [↓sx0, sxE, encs, sevalprocAttr]
      refine BrW.dec (fun hlt => ?_) (fun hlt => ?_)
      · simp only [↓sx0, sxE, encs, sevalprocAttr]
        have hlt : k < s.size := by omega
        have hl : k < s.data.toList.length := by simpa using hlt
        refine StrIx.nat hlt ?_
        have nxt : okB s.data.toList[k] k = true → k + 1 ≤ s.size ∧ okTo s.data.toList (k + 1) := fun hc => ⟨by omega, okTo_succ ht hl hc⟩
        have bad : okB s.data.toList[k] k = false → isNm s = false := fun hc => by
          rw [← Bool.not_eq_true, isNm_iff]
          rintro ⟨_, _, h4⟩
          have := h4 k _ hlt (List.getElem?_eq_getElem hl)
          rw [hc] at this; cases this
        have hce : s[k] = s.data.toList[k] := rfl
        rw [hce]
        generalize hcc : s.data.toList[k] = c at nxt bad ⊢
        clear hcc hce
        simp only [↓sx0, sxE, encs, sevalprocAttr]
        repeat' (refine BrW.dec (fun _ => ?_) (fun _ => ?_) <;> simp only [↓sx0, sxE, encs, sevalprocAttr])
        all_goals first
          | (have hb : okB c k = false := by
               simp only [okB, decide_eq_false_iff_not]
               omega
             have := bad hb
             refine EndW.fn ?_ ?_ <;> simp only [sx4, encs, kpLL_map, sxR, sevalprocAttr] <;> (try simp [this]) <;> (try omega))
          | (skip
             (with_reducible refine Vc.go ?_ fun _ => ?_); focus (first | omega | (simp only [InK]; omega) | (simp [InK]; done) | (simp [InK]; omega))
             simp only [↓sx0, sxE, encs, sevalprocAttr]
             refine ⟨k + 1, StLe.auto (by simp only [sx2, encs, sxR, sevalprocAttr] <;> (try simp) <;> (try omega)), ?_, ?_⟩
             · refine nxt ?_
               simp only [okB, decide_eq_true_eq]
               omega
             · omega)
      · simp only [↓sx0, sxE, encs, sevalprocAttr]
        have hke : k = s.size := by omega
        subst hke
        have : isNm s = true := isNm_iff.2 ⟨h0, by omega, ht⟩
        refine EndW.fn ?_ ?_ <;> simp only [sx4, encs, kpLL_map, sxR, sevalprocAttr] <;> (try simp [this]) <;> (try omega)
end Go.Proofs.YtfojggadhhaleaaGreatDoor
/-
  Chapter 9, walks: lists of texts and numbers; runs.
-/
namespace Go.Proofs.YtfojggadhhaleaaGreatDoor
open Go Go.Vx
set_option linter.unusedSimpArgs false
set_option maxRecDepth 20000
def memB {α : Type} [DecidableEq α] (x : α) (l : List α) : Bool := l.any fun y => decide (y = x)
theorem memB_iff {α : Type} [DecidableEq α] {x : α} {l : List α} : memB x l = true ↔ x ∈ l := by simp [memB]
theorem memB_not {α : Type} [DecidableEq α] {x : α} {l : List α} : memB x l = false ↔ x ∉ l := by rw [← Bool.not_eq_true, memB_iff]
def ixF {α : Type} [DecidableEq α] (l : List α) (x : α) : Int := match l.findIdx? (fun y => decide (y = x)) with
  | some k => (k : Int)
  | none => -1
theorem ixF_at {α : Type} [DecidableEq α] {l : List α} {x : α} {k : Nat} (hk : k < l.length) (he : l[k] = x) (ht : ∀ j (_ : j < k) (h2 : j < l.length), l[j] ≠ x) : ixF l x = k := by
  have : l.findIdx? (fun y => decide (y = x)) = some k := by
    rw [List.findIdx?_eq_some_iff_getElem]
    exact ⟨hk, by simp [he], fun j hj => by simpa using ht j hj (by omega)⟩
  simp [ixF, this]
theorem ixF_no {α : Type} [DecidableEq α] {l : List α} {x : α} (ht : ∀ j (h2 : j < l.length), l[j] ≠ x) : ixF l x = -1 := by
  have : l.findIdx? (fun y => decide (y = x)) = none := by
    rw [List.findIdx?_eq_none_iff]
    intro y hy
    obtain ⟨j, h1, rfl⟩ := List.getElem_of_mem hy
    simpa using ht j h1
  simp [ixF, this]
theorem ixF_mem {α : Type} [DecidableEq α] {l : List α} {x : α} : decide (0 ≤ ixF l x) = memB x l := by
  rw [Bool.eq_iff_iff, memB_iff, decide_eq_true_eq]
  unfold ixF
  cases h : l.findIdx? (fun y => decide (y = x)) with
  | none =>
    rw [List.findIdx?_eq_none_iff] at h
    simp only
    constructor
    · intro h; omega
    · intro hm; have := h x hm; simp at this
  | some k =>
    rw [List.findIdx?_eq_some_iff_getElem] at h
    obtain ⟨h1, h2, _⟩ := h
    simp only
    refine ⟨fun _ => ?_, fun _ => by omega⟩
    have : l[k] = x := by simpa using h2
    rw [← this]; exact List.getElem_mem h1
theorem indexS_s (b : Bool) (l : List ByteArray) (x : ByteArray) (hl : l.length ≤ 1000000000) : Ctr Tryz.prog 86 [.sl b 1 (l.map eS), (.v (.string (x)))] (fun rr => rr = ⟨(.v (.int .i64 (ixF l x))), []⟩) := by
  refine Ctr.of (rs := [.tmp 4]) Tok true Tryz.func86 rfl rfl rfl rfl (by simp [ofDL]) (fun w0 kp => ?_)
  simp only [↓sx0, sxE, encs, sevalprocAttr]
  refine LoopW.comp [0, 1, 7, 8] (by simp only [sx2, encs, sxR, sevalprocAttr] <;> (try simp) <;> (try omega)) ?_
  simp only [sx2, sxR, sevalprocAttr]
  refine LoopW.up Tok (fun k : Nat => [(8, (.v (.int .i64 k)))]) (fun k => []) (fun k => []) (fun k => []) (fun k => k ≤ l.length ∧ ∀ j (_ : j < k) (h2 : j < l.length), l[j] ≠ x) (fun k => l.length - k) (0) (by simp only [sx2, encs, sxR, sevalprocAttr] <;> (try simp) <;> (try omega)) ?_ ?_
  · exact ⟨by omega, fun j h => absurd h (Nat.not_lt_zero _)⟩
  rintro k ⟨hk, ht⟩
  simp only [↓sx0, sxE, encs, sevalprocAttr]
  refine BrW.dec (fun hlt => ?_) (fun hlt => ?_)
  · simp only [↓sx0, sxE, encs, sevalprocAttr]
    have hlt : k < l.length := by omega
    refine IxW.nat hlt ?_
    simp only [↓sx0, sxE, encs, sevalprocAttr]
    refine BrW.dec (fun he => ?_) (fun he => ?_)
    · simp only [↓sx0, sxE, encs, sevalprocAttr]
      have := ixF_at hlt he.symm ht
      refine EndW.fn ?_ ?_ <;> simp only [sx4, encs, kpLL_map, sxR, sevalprocAttr] <;> (try simp [this]) <;> (try omega)
    · simp only [↓sx0, sxE, encs, sevalprocAttr]
      (with_reducible refine Vc.go ?_ fun _ => ?_); focus (first | omega | (simp only [InK]; omega) | (simp [InK]; done) | (simp [InK]; omega))
      simp only [↓sx0, sxE, encs, sevalprocAttr]
      refine ⟨k + 1, StLe.auto (by simp only [sx2, encs, sxR, sevalprocAttr] <;> (try simp) <;> (try omega)), ?_, ?_⟩
      · refine ⟨hlt, fun j h h2 => ?_⟩
        by_cases e : j = k
        · subst e; exact fun e => he e.symm
        · exact ht j (by omega) h2
      · omega
  · simp only [↓sx0, sxE, encs, sevalprocAttr]
    have hke : k = l.length := by omega
    subst hke
    have := ixF_no (l := l) (x := x) fun j h => ht j h h
    refine EndW.fn ?_ ?_ <;> simp only [sx4, encs, kpLL_map, sxR, sevalprocAttr] <;> (try simp [this]) <;> (try omega)
theorem containsS_s (b : Bool) (l : List ByteArray) (x : ByteArray) (hl : l.length ≤ 1000000000) : Ctr Tryz.prog 61 [.sl b 1 (l.map eS), (.v (.string (x)))] (fun rr => rr = ⟨(.v (.bool (memB x l))), []⟩) := by
  refine Ctr.of (rs := [.tmp 4]) Tok true Tryz.func61 rfl rfl rfl rfl (by simp [ofDL]) (fun w0 kp => ?_)
  simp only [↓sx0, sxE, encs, sevalprocAttr]
  refine CallI.fn (indexS_s b l x hl) (by simp only [sx3, encs, sxR, sevalprocAttr] <;> (try simp) <;> (try rfl)) ?_
  simp only [↓sx0, sxE, encs, sevalprocAttr]
  rw [ixF_mem]
  refine EndW.fn ?_ ?_ <;> simp only [sx4, encs, kpLL_map, sxR, sevalprocAttr] <;> (try simp) <;> (try omega)
theorem hasText_s (b : Bool) (l : List ByteArray) (x : ByteArray) (hl : l.length ≤ 1000000000) : Ctr Tryz.prog 35 [.sl b 1 (l.map eS), (.v (.string (x)))] (fun rr => rr = ⟨(.v (.bool (memB x l))), []⟩) := by
  refine Ctr.of (rs := [.tmp 4]) Tok true Tryz.func35 rfl rfl rfl rfl (by simp [ofDL]) (fun w0 kp => ?_)
  simp only [↓sx0, sxE, encs, sevalprocAttr]
  refine LoopW.comp [0, 1, 5] (by simp only [sx2, encs, sxR, sevalprocAttr] <;> (try simp) <;> (try omega)) ?_
  simp only [sx2, sxR, sevalprocAttr]
  refine LoopW.up Tok (fun k : Nat => [(5, (.v (.int .i64 k)))]) (fun k => []) (fun k => []) (fun k => []) (fun k => k ≤ l.length ∧ ∀ j (_ : j < k) (h2 : j < l.length), l[j] ≠ x) (fun k => l.length - k) (0) (by simp only [sx2, encs, sxR, sevalprocAttr] <;> (try simp) <;> (try omega)) ?_ ?_
  · exact ⟨by omega, fun j h => absurd h (Nat.not_lt_zero _)⟩
  rintro k ⟨hk, ht⟩
  simp only [↓sx0, sxE, encs, sevalprocAttr]
  refine BrW.dec (fun hlt => ?_) (fun hlt => ?_)
  · simp only [↓sx0, sxE, encs, sevalprocAttr]
    have hlt : k < l.length := by omega
    refine IxW.nat hlt ?_
    simp only [↓sx0, sxE, encs, sevalprocAttr]
    refine BrW.dec (fun he => ?_) (fun he => ?_)
    · simp only [↓sx0, sxE, encs, sevalprocAttr]
      have : memB x l = true := memB_iff.2 (by rw [← he]; exact List.getElem_mem hlt)
      refine EndW.fn ?_ ?_ <;> simp only [sx4, encs, kpLL_map, sxR, sevalprocAttr] <;> (try simp [this]) <;> (try omega)
    · simp only [↓sx0, sxE, encs, sevalprocAttr]
      (with_reducible refine Vc.go ?_ fun _ => ?_); focus (first | omega | (simp only [InK]; omega) | (simp [InK]; done) | (simp [InK]; omega))
      simp only [↓sx0, sxE, encs, sevalprocAttr]
      refine ⟨k + 1, StLe.auto (by simp only [sx2, encs, sxR, sevalprocAttr] <;> (try simp) <;> (try omega)), ?_, ?_⟩
      · refine ⟨hlt, fun j h h2 => ?_⟩
        by_cases e : j = k
        · subst e; exact he
        · exact ht j (by omega) h2
      · omega
  · simp only [↓sx0, sxE, encs, sevalprocAttr]
    have hke : k = l.length := by omega
    subst hke
    have : memB x l = false := memB_not.2 fun hm => by
      obtain ⟨j, h1, h2⟩ := List.getElem_of_mem hm
      exact ht j h1 h1 h2
    refine EndW.fn ?_ ?_ <;> simp only [sx4, encs, kpLL_map, sxR, sevalprocAttr] <;> (try simp [this]) <;> (try omega)
theorem indexI_s (b : Bool) (l : List Int) (x : Int) (hl : l.length ≤ 1000000000) : Ctr Tryz.prog 88 [.sl b 1 (l.map eI), (.v (.int .i64 x))] (fun rr => rr = ⟨(.v (.int .i64 (ixF l x))), []⟩) := by
  refine Ctr.of (rs := [.tmp 4]) Tok true Tryz.func88 rfl rfl rfl rfl (by simp [ofDL]) (fun w0 kp => ?_)
  simp only [↓sx0, sxE, encs, sevalprocAttr]
  refine LoopW.comp [0, 1, 7, 8] (by simp only [sx2, encs, sxR, sevalprocAttr] <;> (try simp) <;> (try omega)) ?_
  simp only [sx2, sxR, sevalprocAttr]
  refine LoopW.up Tok (fun k : Nat => [(8, (.v (.int .i64 k)))]) (fun k => []) (fun k => []) (fun k => []) (fun k => k ≤ l.length ∧ ∀ j (_ : j < k) (h2 : j < l.length), l[j] ≠ x) (fun k => l.length - k) (0) (by simp only [sx2, encs, sxR, sevalprocAttr] <;> (try simp) <;> (try omega)) ?_ ?_
  · exact ⟨by omega, fun j h => absurd h (Nat.not_lt_zero _)⟩
  rintro k ⟨hk, ht⟩
  simp only [↓sx0, sxE, encs, sevalprocAttr]
  refine BrW.dec (fun hlt => ?_) (fun hlt => ?_)
  · simp only [↓sx0, sxE, encs, sevalprocAttr]
    have hlt : k < l.length := by omega
    refine IxW.nat hlt ?_
    simp only [↓sx0, sxE, encs, sevalprocAttr]
    refine BrW.dec (fun he => ?_) (fun he => ?_)
    · simp only [↓sx0, sxE, encs, sevalprocAttr]
      have := ixF_at hlt he.symm ht
      refine EndW.fn ?_ ?_ <;> simp only [sx4, encs, kpLL_map, sxR, sevalprocAttr] <;> (try simp [this]) <;> (try omega)
    · simp only [↓sx0, sxE, encs, sevalprocAttr]
      (with_reducible refine Vc.go ?_ fun _ => ?_); focus (first | omega | (simp only [InK]; omega) | (simp [InK]; done) | (simp [InK]; omega))
      simp only [↓sx0, sxE, encs, sevalprocAttr]
      refine ⟨k + 1, StLe.auto (by simp only [sx2, encs, sxR, sevalprocAttr] <;> (try simp) <;> (try omega)), ?_, ?_⟩
      · refine ⟨hlt, fun j h h2 => ?_⟩
        by_cases e : j = k
        · subst e; exact fun e => he e.symm
        · exact ht j (by omega) h2
      · omega
  · simp only [↓sx0, sxE, encs, sevalprocAttr]
    have hke : k = l.length := by omega
    subst hke
    have := ixF_no (l := l) (x := x) fun j h => ht j h h
    refine EndW.fn ?_ ?_ <;> simp only [sx4, encs, kpLL_map, sxR, sevalprocAttr] <;> (try simp [this]) <;> (try omega)
theorem containsI_s (b : Bool) (l : List Int) (x : Int) (hl : l.length ≤ 1000000000) : Ctr Tryz.prog 69 [.sl b 1 (l.map eI), (.v (.int .i64 x))] (fun rr => rr = ⟨(.v (.bool (memB x l))), []⟩) := by
  refine Ctr.of (rs := [.tmp 4]) Tok true Tryz.func69 rfl rfl rfl rfl (by simp [ofDL]) (fun w0 kp => ?_)
  simp only [↓sx0, sxE, encs, sevalprocAttr]
  refine CallI.fn (indexI_s b l x hl) (by simp only [sx3, encs, sxR, sevalprocAttr] <;> (try simp) <;> (try rfl)) ?_
  simp only [↓sx0, sxE, encs, sevalprocAttr]
  rw [ixF_mem]
  refine EndW.fn ?_ ?_ <;> simp only [sx4, encs, kpLL_map, sxR, sevalprocAttr] <;> (try simp) <;> (try omega)
end Go.Proofs.YtfojggadhhaleaaGreatDoor
/-
  Chapter 9, walks: runs.
-/
namespace Go.Proofs.YtfojggadhhaleaaGreatDoor
open Go Go.Vx
set_option linter.unusedSimpArgs false
set_option maxRecDepth 20000
def colsErr : List ByteArray → List ByteArray → Int
  | _, [] => 0
  | prev, x :: l => if isNm x = true then (if memB x prev = true then 5 else colsErr (prev ++ [x]) l) else 4
theorem colsErr_at {l : List ByteArray} {k : Nat} (h : k < l.length) (ht : colsErr (l.take k) (l.drop k) = colsErr [] l) : colsErr [] l = if isNm l[k] = true then (if memB l[k] (l.take k) = true then 5 else colsErr (l.take (k + 1)) (l.drop (k + 1))) else 4 := by
  rw [← ht, List.drop_eq_getElem_cons h]
  simp only [colsErr, List.take_succ_eq_append_getElem h]
def runErr (x : Run) : Int :=
  if isNm x.job = true then (if (0 ≤ x.day ∧ x.day ≤ 100000) ∧ (1 ≤ x.wanted ∧ x.wanted ≤ 2000) ∧ (x.wanted ≤ x.given ∧ x.given ≤ 2000) then (if x.cols = [] then 10 else if 6 < x.cols.length then 8 else
    if colsErr [] x.cols = 0 then (if (0 ≤ x.ready ∧ x.ready ≤ 10000) ∧ (1 ≤ x.hour ∧ x.hour ≤ 10000) then 0 else 2) else colsErr [] x.cols) else 2) else 4
theorem checkRun_s (b : Bool) (x : Run) : Ctr Tryz.prog 28 [rV b x] (fun rr => rr = ⟨(.v (.int .i64 (runErr x))), []⟩) := by
  refine Ctr.of (rs := [.tmp 2]) Tok true Tryz.func28 rfl rfl rfl rfl (by simp [ofDL]) (fun w0 kp => ?_)
  simp only [↓sx0, sxE, encs, sevalprocAttr]
  refine CallI.fn (isName_s x.job) (by simp only [sx3, encs, sxR, sevalprocAttr] <;> (try simp) <;> (try rfl)) ?_
  simp only [↓sx0, sxE, encs, sevalprocAttr]
  refine BrW.of (fun h1 => ?_) (fun h1 => ?_)
  · simp only [↓sx0, sxE, encs, sevalprocAttr]
    refine CallI.fn (within_s x.day 0 100000) (by simp only [sx3, encs, sxR, sevalprocAttr] <;> (try simp) <;> (try rfl)) ?_
    simp only [↓sx0, sxE, encs, sevalprocAttr]
    refine BrW.dec (fun h2 => ?_) (fun h2 => ?_)
    · simp only [↓sx0, sxE, encs, sevalprocAttr]
      refine CallI.fn (within_s x.wanted 1 2000) (by simp only [sx3, encs, sxR, sevalprocAttr] <;> (try simp) <;> (try rfl)) ?_
      simp only [↓sx0, sxE, encs, sevalprocAttr]
      refine BrW.dec (fun h3 => ?_) (fun h3 => ?_)
      · simp only [↓sx0, sxE, encs, sevalprocAttr]
        refine CallI.fn (within_s x.given x.wanted 2000) (by simp only [sx3, encs, sxR, sevalprocAttr] <;> (try simp) <;> (try rfl)) ?_
        simp only [↓sx0, sxE, encs, sevalprocAttr]
        refine BrW.dec (fun h4 => ?_) (fun h4 => ?_)
        · simp only [↓sx0, sxE, encs, sevalprocAttr]
          refine BrW.dec (fun h5 => ?_) (fun h5 => ?_)
          · simp only [↓sx0, sxE, encs, sevalprocAttr]
            have h5 : x.cols = [] := List.length_eq_zero_iff.1 (by omega)
            refine EndW.fn ?_ ?_ <;> simp only [sx4, encs, kpLL_map, sxR, sevalprocAttr] <;> (try simp [runErr, h1, h2, h3, h4, h5]) <;> (try omega)
          · simp only [↓sx0, sxE, encs, sevalprocAttr]
            have h5 : ¬ x.cols = [] := fun e => h5 (by rw [e]; rfl)
            refine BrW.dec (fun h6 => ?_) (fun h6 => ?_)
            · simp only [↓sx0, sxE, encs, sevalprocAttr]
              have h6 : 6 < x.cols.length := by omega
              refine EndW.fn ?_ ?_ <;> simp only [sx4, encs, kpLL_map, sxR, sevalprocAttr] <;> (try simp [runErr, h1, h2, h3, h4, h5, h6]) <;> (try omega)
            · simp only [↓sx0, sxE, encs, sevalprocAttr]
              have h6 : ¬ 6 < x.cols.length := by omega
              refine LoopW.comp [1, 40, 41, 42] (by simp only [sx2, encs, sxR, sevalprocAttr] <;> (try simp) <;> (try omega)) ?_
              simp only [sx2, sxR, sevalprocAttr]
              refine LoopW.up Tok (fun k : Nat => [(42, (.v (.int .i64 k)))]) (fun k => []) (fun k => []) (fun k => []) (fun k => k ≤ x.cols.length ∧ colsErr (x.cols.take k) (x.cols.drop k) = colsErr [] x.cols) (fun k => x.cols.length - k) (0) (by simp only [sx2, encs, sxR, sevalprocAttr] <;> (try simp) <;> (try omega)) ?_ ?_
              · exact ⟨by omega, by simp⟩
              rintro k ⟨hk, ht⟩
              simp only [↓sx0, sxE, encs, sevalprocAttr]
              refine BrW.dec (fun hlt => ?_) (fun hlt => ?_)
              · simp only [↓sx0, sxE, encs, sevalprocAttr]
                have hlt : k < x.cols.length := by omega
                have hce := colsErr_at hlt ht
                refine IxW.nat hlt ?_
                simp only [↓sx0, sxE, encs, sevalprocAttr]
                refine CallI.fn (isName_s x.cols[k]) (by simp only [sx3, encs, sxR, sevalprocAttr] <;> (try simp) <;> (try rfl)) ?_
                simp only [↓sx0, sxE, encs, sevalprocAttr]
                refine BrW.of (fun h7 => ?_) (fun h7 => ?_)
                · simp only [↓sx0, sxE, encs, sevalprocAttr]
                  (with_reducible refine Vc.go ?_ fun _ => ?_); focus (first | omega | (simp only [InK]; omega) | (simp [InK]; done) | (simp [InK]; omega))
                  simp only [↓sx0, sxE, encs, sevalprocAttr]
                  refine CallI.fn (containsS_s b (x.cols.take k) x.cols[k] (by simp; omega)) (by simp only [sx3, encs, sxR, sevalprocAttr] <;> (try simp) <;> (try rfl)) ?_
                  simp only [↓sx0, sxE, encs, sevalprocAttr]
                  refine BrW.of (fun h8 => ?_) (fun h8 => ?_)
                  · simp only [↓sx0, sxE, encs, sevalprocAttr]
                    have : colsErr [] x.cols = 5 := by rw [hce]; simp [h7, h8]
                    refine EndW.fn ?_ ?_ <;> simp only [sx4, encs, kpLL_map, sxR, sevalprocAttr] <;> (try simp [runErr, h1, h2, h3, h4, h5, h6, this]) <;> (try omega)
                  · simp only [↓sx0, sxE, encs, sevalprocAttr]
                    (with_reducible refine Vc.go ?_ fun _ => ?_); focus (first | omega | (simp only [InK]; omega) | (simp [InK]; done) | (simp [InK]; omega))
                    simp only [↓sx0, sxE, encs, sevalprocAttr]
                    refine ⟨k + 1, StLe.auto (by simp only [sx2, encs, sxR, sevalprocAttr] <;> (try simp) <;> (try omega)), ?_, ?_⟩
                    · exact ⟨hlt, by rw [hce]; simp [h7, h8]⟩
                    · omega
                · simp only [↓sx0, sxE, encs, sevalprocAttr]
                  have : colsErr [] x.cols = 4 := by rw [hce]; simp [h7]
                  refine EndW.fn ?_ ?_ <;> simp only [sx4, encs, kpLL_map, sxR, sevalprocAttr] <;> (try simp [runErr, h1, h2, h3, h4, h5, h6, this]) <;> (try omega)
              · simp only [↓sx0, sxE, encs, sevalprocAttr]
                have hke : k = x.cols.length := by omega
                subst hke
                have hz : colsErr [] x.cols = 0 := by rw [← ht]; simp [colsErr]
                refine CallI.fn (isMinutes_s x.ready) (by simp only [sx3, encs, sxR, sevalprocAttr] <;> (try simp) <;> (try rfl)) ?_
                simp only [↓sx0, sxE, encs, sevalprocAttr]
                refine BrW.dec (fun h7 => ?_) (fun h7 => ?_)
                · simp only [↓sx0, sxE, encs, sevalprocAttr]
                  refine CallI.fn (within_s x.hour 1 10000) (by simp only [sx3, encs, sxR, sevalprocAttr] <;> (try simp) <;> (try rfl)) ?_
                  simp only [↓sx0, sxE, encs, sevalprocAttr]
                  refine BrW.dec (fun h8 => ?_) (fun h8 => ?_)
                  · simp only [↓sx0, sxE, encs, sevalprocAttr]
                    refine EndW.fn ?_ ?_ <;> simp only [sx4, encs, kpLL_map, sxR, sevalprocAttr] <;> (try simp [runErr, h1, h2, h3, h4, h5, h6, hz, h7, h8]) <;> (try omega)
                  · simp only [↓sx0, sxE, encs, sevalprocAttr]
                    refine EndW.fn ?_ ?_ <;> simp only [sx4, encs, kpLL_map, sxR, sevalprocAttr] <;> (try simp [runErr, h1, h2, h3, h4, h5, h6, hz, h7, h8]) <;> (try omega)
                · simp only [↓sx0, sxE, encs, sevalprocAttr]
                  refine EndW.fn ?_ ?_ <;> simp only [sx4, encs, kpLL_map, sxR, sevalprocAttr] <;> (try simp [runErr, h1, h2, h3, h4, h5, h6, hz, h7]) <;> (try omega)
        · simp only [↓sx0, sxE, encs, sevalprocAttr]
          refine EndW.fn ?_ ?_ <;> simp only [sx4, encs, kpLL_map, sxR, sevalprocAttr] <;> (try simp [runErr, h1, h2, h3, h4]) <;> (try omega)
      · simp only [↓sx0, sxE, encs, sevalprocAttr]
        refine EndW.fn ?_ ?_ <;> simp only [sx4, encs, kpLL_map, sxR, sevalprocAttr] <;> (try simp [runErr, h1, h2, h3]) <;> (try omega)
    · simp only [↓sx0, sxE, encs, sevalprocAttr]
      refine EndW.fn ?_ ?_ <;> simp only [sx4, encs, kpLL_map, sxR, sevalprocAttr] <;> (try simp [runErr, h1, h2]) <;> (try omega)
  · simp only [↓sx0, sxE, encs, sevalprocAttr]
    refine EndW.fn ?_ ?_ <;> simp only [sx4, encs, kpLL_map, sxR, sevalprocAttr] <;> (try simp [runErr, h1]) <;> (try omega)
end Go.Proofs.YtfojggadhhaleaaGreatDoor
/-
 Chapter 9: a run read (the program).
-/
namespace Go.Proofs.YtfojggadhhaleaaGreatDoor
open Go Go.Vx
set_option linter.unusedSimpArgs false
set_option linter.unusedVariables false
set_option maxRecDepth 20000
def run0 : Run := ⟨⟨#[]⟩, 0, 0, 0, [], 0, 0⟩
def wAt (W : List (List UInt8)) (i : Nat) : List UInt8 := W[i]?.getD []
def mkRun (W : List (List UInt8)) (f : Nat → Int) : Run := ⟨bs (wAt W 0), f 1, f 2, f 3, (W.drop 6).map bs, f 4, f 5⟩
def okW (num : List UInt8 → Int × Bool) (W : List (List UInt8)) : Bool := (List.range 5).all fun i => (num (wAt W (i + 1))).2
def prsR (num : List UInt8 → Int × Bool) (l : List UInt8) : Run × Int :=
 if (cutL 32 [] l).length < 6 then (run0, 7) else
 if okW num (cutL 32 [] l) = true then
  (if runErr (mkRun (cutL 32 [] l) fun i => (num (wAt (cutL 32 [] l) i)).1) = 0 then (mkRun (cutL 32 [] l) fun i => (num (wAt (cutL 32 [] l) i)).1, 0) else (run0, runErr (mkRun (cutL 32 [] l) fun i => (num (wAt (cutL 32 [] l) i)).1)))
 else (run0, 7)
def nuP (w : List UInt8) : Int × Bool := numP w 7
theorem nuP_ok {w : List UInt8} {v : Int} (h : Lib.atoiAll w = .ok v) : nuP w = (v, decide (Lib.itoa v = w ∧ (Lib.trimPrefix w [45]).length ≤ 7)) := by simp only [nuP, numP, h]
theorem nuP_bad {w : List UInt8} (h : ∀ v, Lib.atoiAll w ≠ .ok v) : (nuP w).2 = false := by
 unfold nuP numP
 rcases h1 : Lib.atoiAll w with v | _ | _
 ·exact absurd h1 (h v)
 ·rfl
 ·rfl
/-- what stands in the cells after k numbers. -/
def nv (W : List (List UInt8)) (k i : Nat) : Int := if i ≤ k then (nuP (wAt W i)).1 else 0
def prC (W : List (List UInt8)) (k : Nat) : List SV := [(.v (.string (bs (wAt W 0)))), (.v (.int .i64 (nv W k 1))), (.v (.int .i64 (nv W k 2))), (.v (.int .i64 (nv W k 3))), .v (.slice none 0 0), (.v (.int .i64 (nv W k 4))), (.v (.int .i64 (nv W k 5)))]
set_option maxHeartbeats 8000000 in
theorem parseRun_s (l : List UInt8) (hl : l.length ≤ 1000) : CtrK glob Tryz.prog 8 [(.v (.string (bs l)))] (fun rr => rr = ⟨.tup [rV true (prsR nuP l).1, (.v (.int .i64 ((prsR nuP l).2)))], []⟩) := by
 have encs := And.intro encs eW_def
 have hsp := split_T l (by omega)
 have hpr : prsR nuP l = if (cutL 32 [] l).length < 6 then (run0, 7) else
  if okW nuP (cutL 32 [] l) = true then
   (if runErr (mkRun (cutL 32 [] l) fun i => (nuP (wAt (cutL 32 [] l) i)).1) = 0 then (mkRun (cutL 32 [] l) fun i => (nuP (wAt (cutL 32 [] l) i)).1, 0) else (run0, runErr (mkRun (cutL 32 [] l) fun i => (nuP (wAt (cutL 32 [] l) i)).1)))
  else (run0, 7) := rfl
 have hWs : ∀ w ∈ cutL 32 [] l, w.length ≤ 1000 := fun w hw => by have := cutL_mem 32 l [] w hw; simp only [List.length_nil] at this; omega
 have hWl : (cutL 32 [] l).length ≤ 1001 := by rw [cutL_len]; have := List.count_le_length (a := (32 : UInt8)) (l := l); omega
 generalize cutL 32 [] l = W at hsp hpr hWs hWl
 generalize prsR nuP l = R at hpr ⊢
 refine CtrK.of (rs := [.cell 2 24, .tmp 3]) Tok true Tryz.func8 rfl rfl rfl rfl (by simp [ofDL]) (fun w0 kp hgl => ?_)
 simp only [↓sx0, sxE, encs, sevalprocAttr]
 refine CallI.ctrK (hsp) glob_ok hgl rfl (by simp only [sx3, encs, sxR, sevalprocAttr] <;> (try simp) <;> (try rfl)) ?_
 rintro _ rfl
 simp only [↓sx0, sxE, encs, sevalprocAttr]
 refine BrW.dec (fun h6 => ?_) (fun h6 => ?_)
 ·rw [if_pos (by omega)] at hpr
  subst hpr
  simp only [↓sx0, sxE, encs, sevalprocAttr]
  refine EndW.fn ?_ ?_ <;> simp only [sx4, encs, kpLL_map, sxR, sevalprocAttr] <;> (try simp [run0]) <;> (try omega)
 ·rw [if_neg (by omega)] at hpr
  simp only [↓sx0, sxE, encs, sevalprocAttr]
  repeat ((with_reducible refine Vc.go ?_ fun _ => ?_); (focus (first | omega | (simp only [InK]; omega) | (simp [InK]; done) | (simp [InK]; omega))); simp only [↓sx0, sxE, encs, sevalprocAttr])
  refine ⟨by omega, eW W[0], (by rw [show (0 : Int).toNat = 0 from rfl, List.getElem?_map, List.getElem?_eq_getElem (by omega)]; rfl), ?_⟩
  simp only [↓sx0, sxE, encs, sevalprocAttr]
  refine CallI.bxa 1 (by simp) fun β => ?_
  refine CallI.inlG (rs := [.tmp 2]) Tok (fun h => by first | cases h; done | rfl) Tryz.func21 rfl rfl rfl rfl (by simp) (fun ρ σ μ fr lp => ?_) (by refine ⟨_, ?_, rfl⟩; rfl)
  simp only [↓sx0, sxE, encs, sevalprocAttr]
  refine DrawW.plan Tok mixed (.q 0 <| .q 1 <| .q 2 <| .q 3 <| .q 4 <| .q 5 <| .q 6 <| .q 7 <| .q 8 <| .q 9 <| .q 10 <| .q 11 <| .q 12 <| .q 13 <| .q 14 <| .e 15 [] <| .q 16 <| .done) (by kernel_rfl) (by kernel_rfl) ?_
  simp only [↓sx0, sxE, encs, sevalprocAttr]
  have hWg : ∀ i (h : i < W.length), wAt W i = W[i] := fun i h => by rw [wAt, List.getElem?_eq_getElem h]; rfl
  have hbad : ∀ k, k < 5 → (nuP (wAt W (k + 1))).2 = false → ¬ okW nuP W = true := fun k hk h ho => by
   have := List.all_eq_true.1 ho k (List.mem_range.2 hk)
   rw [h] at this; cases this
  have hz : nv W 0 1 = 0 ∧ nv W 0 2 = 0 ∧ nv W 0 3 = 0 ∧ nv W 0 4 = 0 ∧ nv W 0 5 = 0 := by simp [nv]
  have hw0 := hWg 0 (by omega)
  have hnv : ∀ k i, i ≤ k → nv W k i = (nuP (wAt W i)).1 := fun k i h => by rw [nv, if_pos h]
  have hnv0 : ∀ k i, k < i → nv W k i = 0 := fun k i h => by rw [nv, if_neg (by omega)]
  skip
  refine LoopW.comp [2, 4, 5, 22, 23, 24, 1000000] (by simp only [sx2, encs, sxR, sevalprocAttr] <;> (try simp) <;> (try omega)) ?_
  simp only [sx2, sxR, sevalprocAttr]
  refine LoopW.up Tok (fun k : Nat => [(24, (.v (.int .i64 ((k : Int)))))]) (fun k => [(1, [(.v (.string (bs (wAt W 0)))), (.v (.int .i64 (nv W k 1))), (.v (.int .i64 (nv W k 2))), (.v (.int .i64 (nv W k 3))), .v (.slice none 0 0), (.v (.int .i64 (nv W k 4))), (.v (.int .i64 (nv W k 5)))])]) (fun k => []) (fun k => []) (fun k => k ≤ 5 ∧ ∀ i, i < k → (nuP (wAt W (i + 1))).2 = true) (fun k => 5 - k) (0) (by simp only [sx2, encs, sxR, sevalprocAttr] <;> (try simp [hz, hw0, encs]) <;> (try omega)) ?_ ?_
  ·exact ⟨by omega, fun i hi => by omega⟩
  rintro k ⟨hk, hok⟩
  simp only [↓sx0, sxE, encs, sevalprocAttr]
  refine BrW.dec (fun hlt => ?_) (fun hlt => ?_)
  ·have h5 : k = 0 ∨ k = 1 ∨ k = 2 ∨ k = 3 ∨ k = 4 := by omega
   rcases h5 with rfl | rfl | rfl | rfl | rfl
   ·simp only [↓sx0, sxE, encs, sevalprocAttr]
    repeat ((with_reducible refine Vc.go ?_ fun _ => ?_); (focus (first | omega | (simp only [InK]; omega) | (simp [List.length_map, InK]; done) | (simp [List.length_map, InK]; omega))); simp only [↓sx0, sxE, encs, sevalprocAttr])
    refine ⟨by decide, _, rfl, ?_⟩
    simp only [↓sx0, sxE, encs, sevalprocAttr]
    repeat ((with_reducible refine Vc.go ?_ fun _ => ?_); (focus (first | omega | (simp only [InK]; omega) | (simp [List.length_map, InK]; done) | (simp [List.length_map, InK]; omega))); simp only [↓sx0, sxE, encs, sevalprocAttr])
    refine ⟨by omega, eW W[1], (by rw [List.getElem?_map, List.getElem?_eq_getElem (by omega)]; rfl), ?_⟩
    simp only [↓sx0, sxE, encs, sevalprocAttr]
    by_cases ha : ∃ v, Lib.atoiAll W[1] = .ok v
    ·obtain ⟨v, ha⟩ := ha
     have hat := atoi_ok (bs W[1]) (by rw [bs_size]; have := hWs _ (List.getElem_mem (show 1 < W.length by omega)); omega) v (by rw [bs_toList]; exact ha)
     have hnu := nuP_ok ha
     obtain ⟨v0, v1⟩ := Lib.atoiAll_bounds ha
     have hit := itoa_s v v0 v1
     have htr := trim_s (bs W[1]) ⟨#[45]⟩
     rw [bs_toList] at htr
     refine CallI.fnK (hat) glob_ok hgl rfl (by simp only [sx3, encs, sxR, sevalprocAttr] <;> (try simp) <;> (try rfl)) ?_
     simp only [↓sx0, sxE, encs, sevalprocAttr]
     refine CallI.fnK (hit) glob_ok hgl rfl (by simp only [sx3, encs, sxR, sevalprocAttr] <;> (try simp) <;> (try rfl)) ?_
     simp only [↓sx0, sxE, encs, sevalprocAttr]
     by_cases hie : Lib.itoa v = W[1]
     ·refine BrW.no (by simp [hie, bs]) ?_
      simp only [↓sx0, sxE, encs, sevalprocAttr]
      refine CallI.fn (htr) (by simp only [sx3, encs, sxR, sevalprocAttr] <;> (try simp) <;> (try rfl)) ?_
      simp only [↓sx0, sxE, encs, sevalprocAttr]
      by_cases hlen : (Lib.trimPrefix W[1] [45]).length ≤ 7
      ·refine BrW.no (by first | omega | (simp [ByteArray.size]; omega)) ?_
       rw [decide_eq_true (show _ ∧ _ from ⟨hie, hlen⟩)] at hnu
       have hv1 : (nuP (wAt W 1)).1 = v := by rw [hWg 1 (by omega), hnu]
       have hv2 : (nuP (wAt W 1)).2 = true := by rw [hWg 1 (by omega), hnu]
       simp only [↓sx0, sxE, encs, sevalprocAttr]
       repeat ((with_reducible refine Vc.go ?_ fun _ => ?_); (focus (first | omega | (simp only [InK]; omega) | (simp [InK]; done) | (simp [InK]; omega))); simp only [↓sx0, sxE, encs, sevalprocAttr])
       have hr : nv W 1 1 = v ∧ nv W 1 2 = nv W 0 2 ∧ nv W 1 3 = nv W 0 3 ∧ nv W 1 4 = nv W 0 4 ∧ nv W 1 5 = nv W 0 5 := by simp [nv, hv1]
       refine ⟨1, StLe.auto (by simp only [sx2, encs, sxR, sevalprocAttr] <;> (try simp [hr, encs]) <;> (try omega)), ?_, ?_⟩
       ·refine ⟨by omega, fun i hi => ?_⟩
        by_cases h : i = 0
        ·subst h; exact hv2
        ·exact hok i (by omega)
       ·omega
      ·refine BrW.yes (by first | omega | (simp [ByteArray.size]; omega)) ?_
       rw [decide_eq_false (fun h => hlen h.2)] at hnu
       rw [if_neg (hbad 0 (by omega) (by rw [hWg 1 (by omega), hnu]))] at hpr
       subst hpr
       simp only [↓sx0, sxE, encs, sevalprocAttr]
       refine EndW.fn ?_ ?_ <;> simp only [sx4, encs, kpLL_map, sxR, sevalprocAttr] <;> (try simp [run0]) <;> (try omega)
     ·refine BrW.yes (by intro h; exact hie (bs_inj.1 h)) ?_
      rw [decide_eq_false (fun h => hie h.1)] at hnu
      rw [if_neg (hbad 0 (by omega) (by rw [hWg 1 (by omega), hnu]))] at hpr
      subst hpr
      simp only [↓sx0, sxE, encs, sevalprocAttr]
      refine EndW.fn ?_ ?_ <;> simp only [sx4, encs, kpLL_map, sxR, sevalprocAttr] <;> (try simp [run0]) <;> (try omega)
    ·have hat := atoi_bad (bs W[1]) (by rw [bs_size]; have := hWs _ (List.getElem_mem (show 1 < W.length by omega)); omega) (by rw [bs_toList]; exact fun v hv => ha ⟨v, hv⟩)
     have hnu := nuP_bad (fun v hv => ha ⟨v, hv⟩)
     refine CallI.ctrK (hat) glob_ok hgl rfl (by simp only [sx3, encs, sxR, sevalprocAttr] <;> (try simp) <;> (try rfl)) ?_
     rintro _ ⟨n, t, q, rfl⟩
     rw [if_neg (hbad 0 (by omega) (by rw [hWg 1 (by omega)]; exact hnu))] at hpr
     subst hpr
     simp only [↓sx0, sxE, encs, sevalprocAttr]
     refine EndW.fn ?_ ?_ <;> simp only [sx4, encs, kpLL_map, sxR, sevalprocAttr] <;> (try simp [run0]) <;> (try omega)
   ·simp only [↓sx0, sxE, encs, sevalprocAttr]
    repeat ((with_reducible refine Vc.go ?_ fun _ => ?_); (focus (first | omega | (simp only [InK]; omega) | (simp [List.length_map, InK]; done) | (simp [List.length_map, InK]; omega))); simp only [↓sx0, sxE, encs, sevalprocAttr])
    refine ⟨by decide, _, rfl, ?_⟩
    simp only [↓sx0, sxE, encs, sevalprocAttr]
    repeat ((with_reducible refine Vc.go ?_ fun _ => ?_); (focus (first | omega | (simp only [InK]; omega) | (simp [List.length_map, InK]; done) | (simp [List.length_map, InK]; omega))); simp only [↓sx0, sxE, encs, sevalprocAttr])
    refine ⟨by omega, eW W[2], (by rw [List.getElem?_map, List.getElem?_eq_getElem (by omega)]; rfl), ?_⟩
    simp only [↓sx0, sxE, encs, sevalprocAttr]
    by_cases ha : ∃ v, Lib.atoiAll W[2] = .ok v
    ·obtain ⟨v, ha⟩ := ha
     have hat := atoi_ok (bs W[2]) (by rw [bs_size]; have := hWs _ (List.getElem_mem (show 2 < W.length by omega)); omega) v (by rw [bs_toList]; exact ha)
     have hnu := nuP_ok ha
     obtain ⟨v0, v1⟩ := Lib.atoiAll_bounds ha
     have hit := itoa_s v v0 v1
     have htr := trim_s (bs W[2]) ⟨#[45]⟩
     rw [bs_toList] at htr
     refine CallI.fnK (hat) glob_ok hgl rfl (by simp only [sx3, encs, sxR, sevalprocAttr] <;> (try simp) <;> (try rfl)) ?_
     simp only [↓sx0, sxE, encs, sevalprocAttr]
     refine CallI.fnK (hit) glob_ok hgl rfl (by simp only [sx3, encs, sxR, sevalprocAttr] <;> (try simp) <;> (try rfl)) ?_
     simp only [↓sx0, sxE, encs, sevalprocAttr]
     by_cases hie : Lib.itoa v = W[2]
     ·refine BrW.no (by simp [hie, bs]) ?_
      simp only [↓sx0, sxE, encs, sevalprocAttr]
      refine CallI.fn (htr) (by simp only [sx3, encs, sxR, sevalprocAttr] <;> (try simp) <;> (try rfl)) ?_
      simp only [↓sx0, sxE, encs, sevalprocAttr]
      by_cases hlen : (Lib.trimPrefix W[2] [45]).length ≤ 7
      ·refine BrW.no (by first | omega | (simp [ByteArray.size]; omega)) ?_
       rw [decide_eq_true (show _ ∧ _ from ⟨hie, hlen⟩)] at hnu
       have hv1 : (nuP (wAt W 2)).1 = v := by rw [hWg 2 (by omega), hnu]
       have hv2 : (nuP (wAt W 2)).2 = true := by rw [hWg 2 (by omega), hnu]
       simp only [↓sx0, sxE, encs, sevalprocAttr]
       repeat ((with_reducible refine Vc.go ?_ fun _ => ?_); (focus (first | omega | (simp only [InK]; omega) | (simp [InK]; done) | (simp [InK]; omega))); simp only [↓sx0, sxE, encs, sevalprocAttr])
       have hr : nv W 2 1 = nv W 1 1 ∧ nv W 2 2 = v ∧ nv W 2 3 = nv W 1 3 ∧ nv W 2 4 = nv W 1 4 ∧ nv W 2 5 = nv W 1 5 := by simp [nv, hv1]
       refine ⟨2, StLe.auto (by simp only [sx2, encs, sxR, sevalprocAttr] <;> (try simp [hr, encs]) <;> (try omega)), ?_, ?_⟩
       ·refine ⟨by omega, fun i hi => ?_⟩
        by_cases h : i = 1
        ·subst h; exact hv2
        ·exact hok i (by omega)
       ·omega
      ·refine BrW.yes (by first | omega | (simp [ByteArray.size]; omega)) ?_
       rw [decide_eq_false (fun h => hlen h.2)] at hnu
       rw [if_neg (hbad 1 (by omega) (by rw [hWg 2 (by omega), hnu]))] at hpr
       subst hpr
       simp only [↓sx0, sxE, encs, sevalprocAttr]
       refine EndW.fn ?_ ?_ <;> simp only [sx4, encs, kpLL_map, sxR, sevalprocAttr] <;> (try simp [run0]) <;> (try omega)
     ·refine BrW.yes (by intro h; exact hie (bs_inj.1 h)) ?_
      rw [decide_eq_false (fun h => hie h.1)] at hnu
      rw [if_neg (hbad 1 (by omega) (by rw [hWg 2 (by omega), hnu]))] at hpr
      subst hpr
      simp only [↓sx0, sxE, encs, sevalprocAttr]
      refine EndW.fn ?_ ?_ <;> simp only [sx4, encs, kpLL_map, sxR, sevalprocAttr] <;> (try simp [run0]) <;> (try omega)
    ·have hat := atoi_bad (bs W[2]) (by rw [bs_size]; have := hWs _ (List.getElem_mem (show 2 < W.length by omega)); omega) (by rw [bs_toList]; exact fun v hv => ha ⟨v, hv⟩)
     have hnu := nuP_bad (fun v hv => ha ⟨v, hv⟩)
     refine CallI.ctrK (hat) glob_ok hgl rfl (by simp only [sx3, encs, sxR, sevalprocAttr] <;> (try simp) <;> (try rfl)) ?_
     rintro _ ⟨n, t, q, rfl⟩
     rw [if_neg (hbad 1 (by omega) (by rw [hWg 2 (by omega)]; exact hnu))] at hpr
     subst hpr
     simp only [↓sx0, sxE, encs, sevalprocAttr]
     refine EndW.fn ?_ ?_ <;> simp only [sx4, encs, kpLL_map, sxR, sevalprocAttr] <;> (try simp [run0]) <;> (try omega)
   ·simp only [↓sx0, sxE, encs, sevalprocAttr]
    repeat ((with_reducible refine Vc.go ?_ fun _ => ?_); (focus (first | omega | (simp only [InK]; omega) | (simp [List.length_map, InK]; done) | (simp [List.length_map, InK]; omega))); simp only [↓sx0, sxE, encs, sevalprocAttr])
    refine ⟨by decide, _, rfl, ?_⟩
    simp only [↓sx0, sxE, encs, sevalprocAttr]
    repeat ((with_reducible refine Vc.go ?_ fun _ => ?_); (focus (first | omega | (simp only [InK]; omega) | (simp [List.length_map, InK]; done) | (simp [List.length_map, InK]; omega))); simp only [↓sx0, sxE, encs, sevalprocAttr])
    refine ⟨by omega, eW W[3], (by rw [List.getElem?_map, List.getElem?_eq_getElem (by omega)]; rfl), ?_⟩
    simp only [↓sx0, sxE, encs, sevalprocAttr]
    by_cases ha : ∃ v, Lib.atoiAll W[3] = .ok v
    ·obtain ⟨v, ha⟩ := ha
     have hat := atoi_ok (bs W[3]) (by rw [bs_size]; have := hWs _ (List.getElem_mem (show 3 < W.length by omega)); omega) v (by rw [bs_toList]; exact ha)
     have hnu := nuP_ok ha
     obtain ⟨v0, v1⟩ := Lib.atoiAll_bounds ha
     have hit := itoa_s v v0 v1
     have htr := trim_s (bs W[3]) ⟨#[45]⟩
     rw [bs_toList] at htr
     refine CallI.fnK (hat) glob_ok hgl rfl (by simp only [sx3, encs, sxR, sevalprocAttr] <;> (try simp) <;> (try rfl)) ?_
     simp only [↓sx0, sxE, encs, sevalprocAttr]
     refine CallI.fnK (hit) glob_ok hgl rfl (by simp only [sx3, encs, sxR, sevalprocAttr] <;> (try simp) <;> (try rfl)) ?_
     simp only [↓sx0, sxE, encs, sevalprocAttr]
     by_cases hie : Lib.itoa v = W[3]
     ·refine BrW.no (by simp [hie, bs]) ?_
      simp only [↓sx0, sxE, encs, sevalprocAttr]
      refine CallI.fn (htr) (by simp only [sx3, encs, sxR, sevalprocAttr] <;> (try simp) <;> (try rfl)) ?_
      simp only [↓sx0, sxE, encs, sevalprocAttr]
      by_cases hlen : (Lib.trimPrefix W[3] [45]).length ≤ 7
      ·refine BrW.no (by first | omega | (simp [ByteArray.size]; omega)) ?_
       rw [decide_eq_true (show _ ∧ _ from ⟨hie, hlen⟩)] at hnu
       have hv1 : (nuP (wAt W 3)).1 = v := by rw [hWg 3 (by omega), hnu]
       have hv2 : (nuP (wAt W 3)).2 = true := by rw [hWg 3 (by omega), hnu]
       simp only [↓sx0, sxE, encs, sevalprocAttr]
       repeat ((with_reducible refine Vc.go ?_ fun _ => ?_); (focus (first | omega | (simp only [InK]; omega) | (simp [InK]; done) | (simp [InK]; omega))); simp only [↓sx0, sxE, encs, sevalprocAttr])
       have hr : nv W 3 1 = nv W 2 1 ∧ nv W 3 2 = nv W 2 2 ∧ nv W 3 3 = v ∧ nv W 3 4 = nv W 2 4 ∧ nv W 3 5 = nv W 2 5 := by simp [nv, hv1]
       refine ⟨3, StLe.auto (by simp only [sx2, encs, sxR, sevalprocAttr] <;> (try simp [hr, encs]) <;> (try omega)), ?_, ?_⟩
       ·refine ⟨by omega, fun i hi => ?_⟩
        by_cases h : i = 2
        ·subst h; exact hv2
        ·exact hok i (by omega)
       ·omega
      ·refine BrW.yes (by first | omega | (simp [ByteArray.size]; omega)) ?_
       rw [decide_eq_false (fun h => hlen h.2)] at hnu
       rw [if_neg (hbad 2 (by omega) (by rw [hWg 3 (by omega), hnu]))] at hpr
       subst hpr
       simp only [↓sx0, sxE, encs, sevalprocAttr]
       refine EndW.fn ?_ ?_ <;> simp only [sx4, encs, kpLL_map, sxR, sevalprocAttr] <;> (try simp [run0]) <;> (try omega)
     ·refine BrW.yes (by intro h; exact hie (bs_inj.1 h)) ?_
      rw [decide_eq_false (fun h => hie h.1)] at hnu
      rw [if_neg (hbad 2 (by omega) (by rw [hWg 3 (by omega), hnu]))] at hpr
      subst hpr
      simp only [↓sx0, sxE, encs, sevalprocAttr]
      refine EndW.fn ?_ ?_ <;> simp only [sx4, encs, kpLL_map, sxR, sevalprocAttr] <;> (try simp [run0]) <;> (try omega)
    ·have hat := atoi_bad (bs W[3]) (by rw [bs_size]; have := hWs _ (List.getElem_mem (show 3 < W.length by omega)); omega) (by rw [bs_toList]; exact fun v hv => ha ⟨v, hv⟩)
     have hnu := nuP_bad (fun v hv => ha ⟨v, hv⟩)
     refine CallI.ctrK (hat) glob_ok hgl rfl (by simp only [sx3, encs, sxR, sevalprocAttr] <;> (try simp) <;> (try rfl)) ?_
     rintro _ ⟨n, t, q, rfl⟩
     rw [if_neg (hbad 2 (by omega) (by rw [hWg 3 (by omega)]; exact hnu))] at hpr
     subst hpr
     simp only [↓sx0, sxE, encs, sevalprocAttr]
     refine EndW.fn ?_ ?_ <;> simp only [sx4, encs, kpLL_map, sxR, sevalprocAttr] <;> (try simp [run0]) <;> (try omega)
   ·simp only [↓sx0, sxE, encs, sevalprocAttr]
    repeat ((with_reducible refine Vc.go ?_ fun _ => ?_); (focus (first | omega | (simp only [InK]; omega) | (simp [List.length_map, InK]; done) | (simp [List.length_map, InK]; omega))); simp only [↓sx0, sxE, encs, sevalprocAttr])
    refine ⟨by decide, _, rfl, ?_⟩
    simp only [↓sx0, sxE, encs, sevalprocAttr]
    repeat ((with_reducible refine Vc.go ?_ fun _ => ?_); (focus (first | omega | (simp only [InK]; omega) | (simp [List.length_map, InK]; done) | (simp [List.length_map, InK]; omega))); simp only [↓sx0, sxE, encs, sevalprocAttr])
    refine ⟨by omega, eW W[4], (by rw [List.getElem?_map, List.getElem?_eq_getElem (by omega)]; rfl), ?_⟩
    simp only [↓sx0, sxE, encs, sevalprocAttr]
    by_cases ha : ∃ v, Lib.atoiAll W[4] = .ok v
    ·obtain ⟨v, ha⟩ := ha
     have hat := atoi_ok (bs W[4]) (by rw [bs_size]; have := hWs _ (List.getElem_mem (show 4 < W.length by omega)); omega) v (by rw [bs_toList]; exact ha)
     have hnu := nuP_ok ha
     obtain ⟨v0, v1⟩ := Lib.atoiAll_bounds ha
     have hit := itoa_s v v0 v1
     have htr := trim_s (bs W[4]) ⟨#[45]⟩
     rw [bs_toList] at htr
     refine CallI.fnK (hat) glob_ok hgl rfl (by simp only [sx3, encs, sxR, sevalprocAttr] <;> (try simp) <;> (try rfl)) ?_
     simp only [↓sx0, sxE, encs, sevalprocAttr]
     refine CallI.fnK (hit) glob_ok hgl rfl (by simp only [sx3, encs, sxR, sevalprocAttr] <;> (try simp) <;> (try rfl)) ?_
     simp only [↓sx0, sxE, encs, sevalprocAttr]
     by_cases hie : Lib.itoa v = W[4]
     ·refine BrW.no (by simp [hie, bs]) ?_
      simp only [↓sx0, sxE, encs, sevalprocAttr]
      refine CallI.fn (htr) (by simp only [sx3, encs, sxR, sevalprocAttr] <;> (try simp) <;> (try rfl)) ?_
      simp only [↓sx0, sxE, encs, sevalprocAttr]
      by_cases hlen : (Lib.trimPrefix W[4] [45]).length ≤ 7
      ·refine BrW.no (by first | omega | (simp [ByteArray.size]; omega)) ?_
       rw [decide_eq_true (show _ ∧ _ from ⟨hie, hlen⟩)] at hnu
       have hv1 : (nuP (wAt W 4)).1 = v := by rw [hWg 4 (by omega), hnu]
       have hv2 : (nuP (wAt W 4)).2 = true := by rw [hWg 4 (by omega), hnu]
       simp only [↓sx0, sxE, encs, sevalprocAttr]
       repeat ((with_reducible refine Vc.go ?_ fun _ => ?_); (focus (first | omega | (simp only [InK]; omega) | (simp [InK]; done) | (simp [InK]; omega))); simp only [↓sx0, sxE, encs, sevalprocAttr])
       have hr : nv W 4 1 = nv W 3 1 ∧ nv W 4 2 = nv W 3 2 ∧ nv W 4 3 = nv W 3 3 ∧ nv W 4 4 = v ∧ nv W 4 5 = nv W 3 5 := by simp [nv, hv1]
       refine ⟨4, StLe.auto (by simp only [sx2, encs, sxR, sevalprocAttr] <;> (try simp [hr, encs]) <;> (try omega)), ?_, ?_⟩
       ·refine ⟨by omega, fun i hi => ?_⟩
        by_cases h : i = 3
        ·subst h; exact hv2
        ·exact hok i (by omega)
       ·omega
      ·refine BrW.yes (by first | omega | (simp [ByteArray.size]; omega)) ?_
       rw [decide_eq_false (fun h => hlen h.2)] at hnu
       rw [if_neg (hbad 3 (by omega) (by rw [hWg 4 (by omega), hnu]))] at hpr
       subst hpr
       simp only [↓sx0, sxE, encs, sevalprocAttr]
       refine EndW.fn ?_ ?_ <;> simp only [sx4, encs, kpLL_map, sxR, sevalprocAttr] <;> (try simp [run0]) <;> (try omega)
     ·refine BrW.yes (by intro h; exact hie (bs_inj.1 h)) ?_
      rw [decide_eq_false (fun h => hie h.1)] at hnu
      rw [if_neg (hbad 3 (by omega) (by rw [hWg 4 (by omega), hnu]))] at hpr
      subst hpr
      simp only [↓sx0, sxE, encs, sevalprocAttr]
      refine EndW.fn ?_ ?_ <;> simp only [sx4, encs, kpLL_map, sxR, sevalprocAttr] <;> (try simp [run0]) <;> (try omega)
    ·have hat := atoi_bad (bs W[4]) (by rw [bs_size]; have := hWs _ (List.getElem_mem (show 4 < W.length by omega)); omega) (by rw [bs_toList]; exact fun v hv => ha ⟨v, hv⟩)
     have hnu := nuP_bad (fun v hv => ha ⟨v, hv⟩)
     refine CallI.ctrK (hat) glob_ok hgl rfl (by simp only [sx3, encs, sxR, sevalprocAttr] <;> (try simp) <;> (try rfl)) ?_
     rintro _ ⟨n, t, q, rfl⟩
     rw [if_neg (hbad 3 (by omega) (by rw [hWg 4 (by omega)]; exact hnu))] at hpr
     subst hpr
     simp only [↓sx0, sxE, encs, sevalprocAttr]
     refine EndW.fn ?_ ?_ <;> simp only [sx4, encs, kpLL_map, sxR, sevalprocAttr] <;> (try simp [run0]) <;> (try omega)
   ·simp only [↓sx0, sxE, encs, sevalprocAttr]
    repeat ((with_reducible refine Vc.go ?_ fun _ => ?_); (focus (first | omega | (simp only [InK]; omega) | (simp [List.length_map, InK]; done) | (simp [List.length_map, InK]; omega))); simp only [↓sx0, sxE, encs, sevalprocAttr])
    refine ⟨by decide, _, rfl, ?_⟩
    simp only [↓sx0, sxE, encs, sevalprocAttr]
    repeat ((with_reducible refine Vc.go ?_ fun _ => ?_); (focus (first | omega | (simp only [InK]; omega) | (simp [List.length_map, InK]; done) | (simp [List.length_map, InK]; omega))); simp only [↓sx0, sxE, encs, sevalprocAttr])
    refine ⟨by omega, eW W[5], (by rw [List.getElem?_map, List.getElem?_eq_getElem (by omega)]; rfl), ?_⟩
    simp only [↓sx0, sxE, encs, sevalprocAttr]
    by_cases ha : ∃ v, Lib.atoiAll W[5] = .ok v
    ·obtain ⟨v, ha⟩ := ha
     have hat := atoi_ok (bs W[5]) (by rw [bs_size]; have := hWs _ (List.getElem_mem (show 5 < W.length by omega)); omega) v (by rw [bs_toList]; exact ha)
     have hnu := nuP_ok ha
     obtain ⟨v0, v1⟩ := Lib.atoiAll_bounds ha
     have hit := itoa_s v v0 v1
     have htr := trim_s (bs W[5]) ⟨#[45]⟩
     rw [bs_toList] at htr
     refine CallI.fnK (hat) glob_ok hgl rfl (by simp only [sx3, encs, sxR, sevalprocAttr] <;> (try simp) <;> (try rfl)) ?_
     simp only [↓sx0, sxE, encs, sevalprocAttr]
     refine CallI.fnK (hit) glob_ok hgl rfl (by simp only [sx3, encs, sxR, sevalprocAttr] <;> (try simp) <;> (try rfl)) ?_
     simp only [↓sx0, sxE, encs, sevalprocAttr]
     by_cases hie : Lib.itoa v = W[5]
     ·refine BrW.no (by simp [hie, bs]) ?_
      simp only [↓sx0, sxE, encs, sevalprocAttr]
      refine CallI.fn (htr) (by simp only [sx3, encs, sxR, sevalprocAttr] <;> (try simp) <;> (try rfl)) ?_
      simp only [↓sx0, sxE, encs, sevalprocAttr]
      by_cases hlen : (Lib.trimPrefix W[5] [45]).length ≤ 7
      ·refine BrW.no (by first | omega | (simp [ByteArray.size]; omega)) ?_
       rw [decide_eq_true (show _ ∧ _ from ⟨hie, hlen⟩)] at hnu
       have hv1 : (nuP (wAt W 5)).1 = v := by rw [hWg 5 (by omega), hnu]
       have hv2 : (nuP (wAt W 5)).2 = true := by rw [hWg 5 (by omega), hnu]
       simp only [↓sx0, sxE, encs, sevalprocAttr]
       repeat ((with_reducible refine Vc.go ?_ fun _ => ?_); (focus (first | omega | (simp only [InK]; omega) | (simp [InK]; done) | (simp [InK]; omega))); simp only [↓sx0, sxE, encs, sevalprocAttr])
       have hr : nv W 5 1 = nv W 4 1 ∧ nv W 5 2 = nv W 4 2 ∧ nv W 5 3 = nv W 4 3 ∧ nv W 5 4 = nv W 4 4 ∧ nv W 5 5 = v := by simp [nv, hv1]
       refine ⟨5, StLe.auto (by simp only [sx2, encs, sxR, sevalprocAttr] <;> (try simp [hr, encs]) <;> (try omega)), ?_, ?_⟩
       ·refine ⟨by omega, fun i hi => ?_⟩
        by_cases h : i = 4
        ·subst h; exact hv2
        ·exact hok i (by omega)
       ·omega
      ·refine BrW.yes (by first | omega | (simp [ByteArray.size]; omega)) ?_
       rw [decide_eq_false (fun h => hlen h.2)] at hnu
       rw [if_neg (hbad 4 (by omega) (by rw [hWg 5 (by omega), hnu]))] at hpr
       subst hpr
       simp only [↓sx0, sxE, encs, sevalprocAttr]
       refine EndW.fn ?_ ?_ <;> simp only [sx4, encs, kpLL_map, sxR, sevalprocAttr] <;> (try simp [run0]) <;> (try omega)
     ·refine BrW.yes (by intro h; exact hie (bs_inj.1 h)) ?_
      rw [decide_eq_false (fun h => hie h.1)] at hnu
      rw [if_neg (hbad 4 (by omega) (by rw [hWg 5 (by omega), hnu]))] at hpr
      subst hpr
      simp only [↓sx0, sxE, encs, sevalprocAttr]
      refine EndW.fn ?_ ?_ <;> simp only [sx4, encs, kpLL_map, sxR, sevalprocAttr] <;> (try simp [run0]) <;> (try omega)
    ·have hat := atoi_bad (bs W[5]) (by rw [bs_size]; have := hWs _ (List.getElem_mem (show 5 < W.length by omega)); omega) (by rw [bs_toList]; exact fun v hv => ha ⟨v, hv⟩)
     have hnu := nuP_bad (fun v hv => ha ⟨v, hv⟩)
     refine CallI.ctrK (hat) glob_ok hgl rfl (by simp only [sx3, encs, sxR, sevalprocAttr] <;> (try simp) <;> (try rfl)) ?_
     rintro _ ⟨n, t, q, rfl⟩
     rw [if_neg (hbad 4 (by omega) (by rw [hWg 5 (by omega)]; exact hnu))] at hpr
     subst hpr
     simp only [↓sx0, sxE, encs, sevalprocAttr]
     refine EndW.fn ?_ ?_ <;> simp only [sx4, encs, kpLL_map, sxR, sevalprocAttr] <;> (try simp [run0]) <;> (try omega)
  ·have hk5 : k = 5 := by omega
   subst hk5
   have hok5 : okW nuP W = true := List.all_eq_true.2 fun i hi => hok i (List.mem_range.1 hi)
   rw [if_pos hok5] at hpr
   have hn5 := fun i (h : i ≤ 5) => hnv 5 i h
   simp only [↓sx0, sxE, encs, sevalprocAttr]
   refine DrawW.plan Tok mixed (.q 0 <| .q 1 <| .q 2 <| .e 3 [1] <| .e 4 [] <| .q 5 <| .e 6 [] <| .done) (by kernel_rfl) (by kernel_rfl) ?_
   simp only [↓sx0, sxE, encs, sevalprocAttr]
   repeat ((with_reducible refine Vc.go ?_ fun _ => ?_); (focus (first | omega | (simp only [InK]; omega) | (simp [List.length_map, List.length_drop, InK]; done) | (simp [List.length_map, List.length_drop, InK]; omega))); simp only [↓sx0, sxE, encs, sevalprocAttr])
   obtain ⟨X, hX⟩ : ∃ X, X = mkRun W fun i => (nuP (wAt W i)).1 := ⟨_, rfl⟩
   rw [← hX] at hpr
   have e0 : bs (wAt W 0) = X.job := by rw [hX]; rfl
   have e1 : nv W 5 1 = X.day := by rw [hX, hn5 1 (by omega)]; rfl
   have e2 : nv W 5 2 = X.wanted := by rw [hX, hn5 2 (by omega)]; rfl
   have e3 : nv W 5 3 = X.given := by rw [hX, hn5 3 (by omega)]; rfl
   have e4 : nv W 5 4 = X.ready := by rw [hX, hn5 4 (by omega)]; rfl
   have e5 : nv W 5 5 = X.hour := by rw [hX, hn5 5 (by omega)]; rfl
   have ec : (W.map eW).drop 6 = X.cols.map eS := by
    rw [hX, cols_W, ← List.map_drop]
    have em : ((W.drop 6).map bs).map (·.data.toList) = W.drop 6 := by
     rw [List.map_map]
     conv => rhs; rw [← List.map_id (W.drop 6)]
     exact List.map_congr_left fun w _ => bs_toList w
    show _ = (((W.drop 6).map bs).map (·.data.toList)).map eW
    rw [em]
   clear hX
   rw [e0, e1, e2, e3, e4, e5]
   rw [ec]
   refine CallI.fn (checkRun_s false X) (by simp only [sx3, encs, sxR, sevalprocAttr] <;> (try simp) <;> (try rfl)) ?_
   simp only [↓sx0, sxE, encs, sevalprocAttr]
   refine BrW.dec (fun he => ?_) (fun he => ?_)
   ·rw [if_neg he] at hpr
    subst hpr
    simp only [↓sx0, sxE, encs, sevalprocAttr]
    refine EndW.fn ?_ ?_ <;> simp only [sx4, encs, kpLL_map, sxR, sevalprocAttr] <;> (try simp [run0]) <;> (try omega)
   ·rw [if_pos (Decidable.not_not.1 he)] at hpr
    subst hpr
    simp only [↓sx0, sxE, encs, sevalprocAttr]
    refine EndW.fn ?_ ?_ <;> simp only [sx4, encs, kpLL_map, sxR, sevalprocAttr] <;> (try simp) <;> (try omega)
end Go.Proofs.YtfojggadhhaleaaGreatDoor
