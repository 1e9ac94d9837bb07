/-
 Chapter 6: numbers of texts (the program).
-/
import Derived.Test.YtgiegokdcmkfeaaGreatDoorVGA
import Derived.BigCall
import Derived.Test.YtgiegokdcmkfeaaGreatDoorVItB
import Derived.Test.YtgiegokdcmkfeaaGreatDoorVBld
import Derived.Test.YtgiegokdcmkfeaaGreatDoorVB6
import Derived.Test.YtgiegokdcmkfeaaGreatDoorVRev
set_option linter.unusedSimpArgs false
set_option linter.unusedVariables false
namespace Go.Proofs.YtgiegokdcmkfeaaGreatDoor
open Go Go.Vx Go.Shelf Go.RowKit Go.Sort
set_option maxHeartbeats 4000000 in
set_option maxRecDepth 100000 in
theorem number_raw (s : ByteArray) (d : Nat) (hlim : s.size ≤ 281474976710656) (hd : d ≤ 1000) (w : World) (hg : glob w) :
  Calls Tryz.prog 39 #[.string s, .int .i64 d] w fun e w' => e = .returned (.tuple #[.int .i64 (numP s.data.toList d).1, .bool (numP s.data.toList d).2]) ∧ Below w.heap.size w w' := by
 have mixed : Tryz.prog.follows Departure.mixedOrders = true := rfl
 obtain ⟨ev, he, hev⟩ := hg.2.1
 obtain ⟨er, hr, her⟩ := hg.2.2.1
 rcases h : Lib.atoiAll s.data.toList with v | _ | _
 ·obtain ⟨v0, v1⟩ := Lib.atoiAll_bounds h
  have hv : numP s.data.toList d = (v, decide (Lib.itoa v = s.data.toList ∧ (Lib.trimPrefix s.data.toList [45]).length ≤ d)) := by simp only [numP, h]
  rw [hv]
  simp only
  go_enter Tryz.func39, Tryz.ntmps39
  go_wp2_with (go_at_call 78; refine (Any.strconv_Atoi_ok laysAtoi s (by omega) v h _).mono ?_)
  rintro e W1 ⟨rfl, hw⟩
  have hb1 : Below w.heap.size w W1 := by
   rcases hw with rfl | ⟨t, rfl⟩
   ·exact Below.refl _ _
   ·exact Lib.bytesWorld_below _ _ _
  have hg1 := glob_ok w W1 hb1.size hb1.block hg
  go_wp2_with (go_at_call 32; refine (Any.strconv_Itoa laysItoa v v0 v1 _ ?_).mono ?_)
  ·exact hg1.1
  rintro e W2 ⟨rfl, k, os, rfl⟩
  have hb2 : Below w.heap.size w (grow (W1.drewN k) os) := hb1.trans ((grow_below W1 k os).mono hb1.size)
  by_cases hi : Lib.itoa v = s.data.toList
  ·have hs' : (⟨(Lib.itoa v).toArray⟩ : ByteArray) = s := by rw [hi]
   rw [hs']
   go_wp2_with (go_at_call 79; refine (Any.strings_TrimPrefix laysTrim s ⟨#[45]⟩ _).mono ?_)
   go_ret2
   exact ⟨by simp [hi], hb2⟩
  ·have hs' : ¬ (⟨(Lib.itoa v).toArray⟩ : ByteArray) = s := fun e => hi (by rw [← e])
   have hi' : ¬ Lib.itoa v = s.toList := fun e => hi (by rw [e, Lib.toList_data])
   go_wp2
   all_goals first
    | exact absurd (by assumption) hi'
    | (go_ret2; exact ⟨by simp [hi], hb2⟩)
 ·have hv : numP s.data.toList d = (0, false) := by simp only [numP, h]
  rw [hv]
  simp only
  go_enter Tryz.func39, Tryz.ntmps39
  go_wp2_with (go_at_call 78; refine (Any.strconv_Atoi_syntax laysAtoi s hlim h ev _ ?_ hev).mono ?_)
  ·exact he
  rintro e W1 ⟨N, rfl, -, -, hb⟩
  go_wp2
  go_ret2
  exact ⟨rfl, hb⟩
 ·have hv : numP s.data.toList d = (Lib.atoiSat s.data.toList, false) := by simp only [numP, h]
  rw [hv]
  simp only
  go_enter Tryz.func39, Tryz.ntmps39
  go_wp2_with (go_at_call 78; refine (Any.strconv_Atoi_range laysAtoi s hlim h er _ ?_ her).mono ?_)
  ·exact hr
  rintro e W1 ⟨N, rfl, -, -, hb⟩
  go_wp2
  go_ret2
  exact ⟨rfl, hb⟩
theorem number_s (s : ByteArray) (d : Nat) (hlim : s.size ≤ 281474976710656) (hd : d ≤ 1000) : CtrK glob Tryz.prog 39 [(.v (.string (s))), (.v (.int .i64 ((d : Int))))] (fun rr => rr = ⟨.tup [(.v (.int .i64 ((numP s.data.toList d).1))), (.v (.bool ((numP s.data.toList d).2)))], []⟩) :=
 CtrK.vals (xs := [.string s, .int .i64 (d : Int)]) Tryz.func39 rfl rfl (u := .tuple #[.int .i64 (numP s.data.toList d).1, .bool (numP s.data.toList d).2]) (fun g => by
  simp only [rel]
  exact ⟨_, rfl, rels_same [.int .i64 (numP s.data.toList d).1, .bool (numP s.data.toList d).2]⟩) fun w hg => number_raw s d hlim hd w hg
end Go.Proofs.YtgiegokdcmkfeaaGreatDoor
/-
 Chapter 6: numbers as texts, texts cut (the reference).
-/
namespace Go.Proofs.YtgiegokdcmkfeaaGreatDoor
open Go Go.Vx
set_option maxRecDepth 20000
def bs (l : List UInt8) : ByteArray := ⟨l.toArray⟩
theorem bs_add (a b : List UInt8) : bs a ++ bs b = bs (a ++ b) := by
 apply ByteArray.ext
 simp [bs, ByteArray.data_append]
theorem bs_size (a : List UInt8) : (bs a).size = a.length := by simp [bs, ByteArray.size]
theorem bs_data (s : ByteArray) : bs s.data.toList = s := by cases s; rfl
theorem bs_toList (a : List UInt8) : (bs a).data.toList = a := by simp [bs]
theorem bs_inj {a b : List UInt8} : bs a = bs b ↔ a = b := ⟨fun h => by rw [← bs_toList a, h, bs_toList], fun h => by rw [h]⟩
theorem CvR.go {e : TypeId} {els : List (List D)} {K : SV → St → Prop} {st : St} (h : 0 < els.length) (z : ByteArray) (hz : els = bytesD z) (hk : K (.v (.string z)) st) : CvR (some (.own e 1 els)) K st ⟨⟩ := ⟨rfl, h, z, hz, hk⟩
theorem dec_len : ∀ (k u : Nat), u < 10 ^ (k + 1) → (Lib.decDigits u).length ≤ k + 1
 | 0, u, h => by rw [Lib.decDigits, dif_pos (by omega)]; simp
 | k + 1, u, h => by
  rw [Lib.decDigits]
  split
  ·simp
  ·have h10 : 10 ^ (k + 1 + 1) = 10 ^ (k + 1) * 10 := Nat.pow_succ 10 (k + 1)
   have := dec_len k (u / 10) (by omega)
   simp only [List.length_append, List.length_singleton]
   omega
theorem bs_nil : bs [] = ⟨#[]⟩ := rfl
theorem size_s (n : Int) (h : -1000 ≤ n ∧ n ≤ 1000) : Ctr Tryz.prog 88 [(.v (.int .i64 n))] (fun rr => rr = ⟨(.v (.int .i64 ((n.natAbs : Int)))), []⟩) := by
 rw [show (n.natAbs : Int) = max n (-n) by omega]
 refine Ctr.of (rs := [.tmp 2]) Tok true Tryz.func88 rfl rfl rfl rfl (by simp [ofDL]) (fun w0 kp => ?_)
 simp only [↓sx0, sxE, encs, sevalprocAttr]
 repeat ((with_reducible refine Vc.go ?_ fun _ => ?_); (focus (first | omega | (simp only [InK]; omega) | (simp [InK]; done) | (simp [InK]; omega))); simp only [↓sx0, sxE, encs, sevalprocAttr])
 refine EndW.fn ?_ ?_ <;> simp only [sx4, encs, kpLL_map, sxR, sevalprocAttr] <;> (try simp) <;> (try omega)
structure DS where
 m : Int
 suf : List UInt8
set_option maxHeartbeats 4000000 in
theorem decimal_s (n : Int) (h0 : -9223372036854775808 ≤ n) (h1 : n ≤ 9223372036854775807) : Ctr Tryz.prog 63 [(.v (.int .i64 n))] (fun rr => rr = ⟨(.v (.string (bs (Lib.itoa n)))), []⟩) := by
 refine Ctr.of (rs := [.tmp 2]) Tok true Tryz.func63 rfl rfl rfl rfl (by simp [ofDL]) (fun w0 kp => ?_)
 simp only [↓sx0, sxE, encs, sevalprocAttr]
 refine BrW.dec (fun hz => ?_) (fun hz => ?_)
 ·subst hz
  simp only [↓sx0, sxE, encs, sevalprocAttr]
  have : bs (Lib.itoa 0) = ⟨#[48]⟩ := by rw [Lib.itoa, if_neg (by decide), Lib.decDigits, dif_pos (by decide)]; rfl
  refine EndW.fn ?_ ?_ <;> simp only [sx4, encs, kpLL_map, sxR, sevalprocAttr] <;> (try simp [this]) <;> (try omega)
 ·have hl : (Lib.decDigits n.natAbs).length ≤ 20 := dec_len 19 _ (by omega)
  simp only [↓sx0, sxE, encs, sevalprocAttr]
  refine BrW.dec (fun hn => ?_) (fun hn => ?_)
  ·have hit : bs (Lib.itoa n) = ⟨#[45]⟩ ++ bs (Lib.decDigits n.natAbs) := by
    rw [show (⟨#[45]⟩ : ByteArray) = bs [45] from rfl, bs_add, Lib.itoa, if_pos hn]; rfl
   simp only [↓sx0, sxE, encs, sevalprocAttr]
   refine LoopW.comp [0, 3, 4] (by simp only [sx2, encs, sxR, sevalprocAttr] <;> (try simp) <;> (try omega)) ?_
   simp only [sx2, sxR, sevalprocAttr]
   refine LoopW.up Tok (fun s : DS => [(0, (.v (.int .i64 s.m))), (3, (.v (.string (bs s.suf))))]) (fun s => []) (fun s => []) (fun s => []) (fun s => s.m.natAbs ≤ n.natAbs ∧ Lib.decDigits n.natAbs = (if s.m = 0 then [] else Lib.decDigits s.m.natAbs) ++ s.suf) (fun s => s.m.natAbs) (⟨n, []⟩) (by simp only [sx2, encs, sxR, sevalprocAttr] <;> (try simp [bs_nil, encs]) <;> (try omega)) ?_ ?_
   ·exact ⟨Nat.le_refl _, by rw [if_neg hz]; simp⟩
   rintro ⟨m, suf⟩ ⟨hm, hE⟩
   simp only at hm hE
   have hsl : suf.length ≤ 20 := by
    have := congrArg List.length hE
    rw [List.length_append] at this
    omega
   simp only [↓sx0, sxE, encs, sevalprocAttr]
   refine BrW.dec (fun hm0 => ?_) (fun hm0 => ?_)
   ·simp only [↓sx0, sxE, encs, sevalprocAttr]
    repeat ((with_reducible refine Vc.go ?_ fun _ => ?_); (focus (first | omega | (simp only [InK]; omega) | (simp [InK]; done) | (simp [InK]; omega))); simp only [↓sx0, sxE, encs, sevalprocAttr])
    have e1 : (m.tmod 10).natAbs = m.natAbs % 10 := by rw [Int.natAbs_tmod]; rfl
    have e2 : (m.tdiv 10).natAbs = m.natAbs / 10 := by rw [Int.natAbs_tdiv]; rfl
    refine CallI.fn (size_s (m.tmod 10) (by omega)) (by simp only [sx3, encs, sxR, sevalprocAttr] <;> (try simp) <;> (try rfl)) ?_
    simp only [↓sx0, sxE, encs, sevalprocAttr]
    rw [e1]
    repeat ((with_reducible refine Vc.go ?_ fun _ => ?_); (focus (first | omega | (simp only [InK]; omega) | (simp [InK]; done) | (simp [InK]; omega))); simp only [↓sx0, sxE, encs, sevalprocAttr])
    refine CvR.go (by simp) (bs [UInt8.ofNat (48 + m.natAbs % 10)]) ?_ ?_
    ·simp only [bytesD, bs_toList, List.map_cons, List.map_nil, dig_nat (show m.natAbs % 10 < 10 by omega)]
     simp
    ·simp only [↓sx0, sxE, encs, sevalprocAttr]
     have hs1 : (bs [UInt8.ofNat (48 + m.natAbs % 10)]).size = 1 := bs_size _
     have hs2 : (bs suf).size = suf.length := bs_size _
     repeat ((with_reducible refine Vc.go ?_ fun _ => ?_); (focus (first | omega | (simp only [InK]; omega) | (simp [InK]; done) | (simp [InK]; omega))); simp only [↓sx0, sxE, encs, sevalprocAttr])
     have hadd : bs [UInt8.ofNat (48 + m.natAbs % 10)] ++ bs suf = bs (UInt8.ofNat (48 + m.natAbs % 10) :: suf) := bs_add _ _
     rw [hadd]
     refine ⟨⟨m.tdiv 10, UInt8.ofNat (48 + m.natAbs % 10) :: suf⟩, StLe.auto (by simp only [sx2, encs, sxR, sevalprocAttr] <;> (try simp) <;> (try omega)), ?_, ?_⟩
     ·refine ⟨by simp only; omega, ?_⟩
      simp only
      rw [if_neg hm0] at hE
      by_cases hb : m.natAbs < 10
      ·have : m.tdiv 10 = 0 := by omega
       rw [if_pos this, hE, Lib.decDigits, dif_pos hb, show m.natAbs % 10 = m.natAbs by omega]; rfl
      ·have : ¬ m.tdiv 10 = 0 := by omega
       rw [if_neg this, hE, e2]
       conv => lhs; rw [Lib.decDigits, dif_neg hb]
       simp
     ·simp only; omega
   ·have hm0 := Decidable.not_not.1 hm0
    rw [if_pos hm0, List.nil_append] at hE
    rw [hE] at hit hl
    have hs2 : (bs suf).size = suf.length := bs_size _
    have hs3 : (⟨#[45]⟩ : ByteArray).size = 1 := rfl
    have hs4 : (⟨#[]⟩ : ByteArray).size = 0 := rfl
    simp only [↓sx0, sxE, encs, sevalprocAttr]
    repeat ((with_reducible refine Vc.go ?_ fun _ => ?_); (focus (first | omega | (simp only [InK]; omega) | (simp [InK]; done) | (simp [InK]; omega))); simp only [↓sx0, sxE, encs, sevalprocAttr])
    refine EndW.fn ?_ ?_ <;> simp only [sx4, encs, kpLL_map, sxR, sevalprocAttr] <;> (try simp [hit]) <;> (try omega)
  ·have hit : bs (Lib.itoa n) = ⟨#[]⟩ ++ bs (Lib.decDigits n.natAbs) := by
    rw [show (⟨#[]⟩ : ByteArray) = bs [] from rfl, bs_add, Lib.itoa, if_neg hn, show n.toNat = n.natAbs by omega]; rfl
   simp only [↓sx0, sxE, encs, sevalprocAttr]
   refine LoopW.comp [0, 3, 4] (by simp only [sx2, encs, sxR, sevalprocAttr] <;> (try simp) <;> (try omega)) ?_
   simp only [sx2, sxR, sevalprocAttr]
   refine LoopW.up Tok (fun s : DS => [(0, (.v (.int .i64 s.m))), (3, (.v (.string (bs s.suf))))]) (fun s => []) (fun s => []) (fun s => []) (fun s => s.m.natAbs ≤ n.natAbs ∧ Lib.decDigits n.natAbs = (if s.m = 0 then [] else Lib.decDigits s.m.natAbs) ++ s.suf) (fun s => s.m.natAbs) (⟨n, []⟩) (by simp only [sx2, encs, sxR, sevalprocAttr] <;> (try simp [bs_nil, encs]) <;> (try omega)) ?_ ?_
   ·exact ⟨Nat.le_refl _, by rw [if_neg hz]; simp⟩
   rintro ⟨m, suf⟩ ⟨hm, hE⟩
   simp only at hm hE
   have hsl : suf.length ≤ 20 := by
    have := congrArg List.length hE
    rw [List.length_append] at this
    omega
   simp only [↓sx0, sxE, encs, sevalprocAttr]
   refine BrW.dec (fun hm0 => ?_) (fun hm0 => ?_)
   ·simp only [↓sx0, sxE, encs, sevalprocAttr]
    repeat ((with_reducible refine Vc.go ?_ fun _ => ?_); (focus (first | omega | (simp only [InK]; omega) | (simp [InK]; done) | (simp [InK]; omega))); simp only [↓sx0, sxE, encs, sevalprocAttr])
    have e1 : (m.tmod 10).natAbs = m.natAbs % 10 := by rw [Int.natAbs_tmod]; rfl
    have e2 : (m.tdiv 10).natAbs = m.natAbs / 10 := by rw [Int.natAbs_tdiv]; rfl
    refine CallI.fn (size_s (m.tmod 10) (by omega)) (by simp only [sx3, encs, sxR, sevalprocAttr] <;> (try simp) <;> (try rfl)) ?_
    simp only [↓sx0, sxE, encs, sevalprocAttr]
    rw [e1]
    repeat ((with_reducible refine Vc.go ?_ fun _ => ?_); (focus (first | omega | (simp only [InK]; omega) | (simp [InK]; done) | (simp [InK]; omega))); simp only [↓sx0, sxE, encs, sevalprocAttr])
    refine CvR.go (by simp) (bs [UInt8.ofNat (48 + m.natAbs % 10)]) ?_ ?_
    ·simp only [bytesD, bs_toList, List.map_cons, List.map_nil, dig_nat (show m.natAbs % 10 < 10 by omega)]
     simp
    ·simp only [↓sx0, sxE, encs, sevalprocAttr]
     have hs1 : (bs [UInt8.ofNat (48 + m.natAbs % 10)]).size = 1 := bs_size _
     have hs2 : (bs suf).size = suf.length := bs_size _
     repeat ((with_reducible refine Vc.go ?_ fun _ => ?_); (focus (first | omega | (simp only [InK]; omega) | (simp [InK]; done) | (simp [InK]; omega))); simp only [↓sx0, sxE, encs, sevalprocAttr])
     have hadd : bs [UInt8.ofNat (48 + m.natAbs % 10)] ++ bs suf = bs (UInt8.ofNat (48 + m.natAbs % 10) :: suf) := bs_add _ _
     rw [hadd]
     refine ⟨⟨m.tdiv 10, UInt8.ofNat (48 + m.natAbs % 10) :: suf⟩, StLe.auto (by simp only [sx2, encs, sxR, sevalprocAttr] <;> (try simp) <;> (try omega)), ?_, ?_⟩
     ·refine ⟨by simp only; omega, ?_⟩
      simp only
      rw [if_neg hm0] at hE
      by_cases hb : m.natAbs < 10
      ·have : m.tdiv 10 = 0 := by omega
       rw [if_pos this, hE, Lib.decDigits, dif_pos hb, show m.natAbs % 10 = m.natAbs by omega]; rfl
      ·have : ¬ m.tdiv 10 = 0 := by omega
       rw [if_neg this, hE, e2]
       conv => lhs; rw [Lib.decDigits, dif_neg hb]
       simp
     ·simp only; omega
   ·have hm0 := Decidable.not_not.1 hm0
    rw [if_pos hm0, List.nil_append] at hE
    rw [hE] at hit hl
    have hs2 : (bs suf).size = suf.length := bs_size _
    have hs3 : (⟨#[45]⟩ : ByteArray).size = 1 := rfl
    have hs4 : (⟨#[]⟩ : ByteArray).size = 0 := rfl
    simp only [↓sx0, sxE, encs, sevalprocAttr]
    repeat ((with_reducible refine Vc.go ?_ fun _ => ?_); (focus (first | omega | (simp only [InK]; omega) | (simp [InK]; done) | (simp [InK]; omega))); simp only [↓sx0, sxE, encs, sevalprocAttr])
    refine EndW.fn ?_ ?_ <;> simp only [sx4, encs, kpLL_map, sxR, sevalprocAttr] <;> (try simp [hit]) <;> (try omega)
end Go.Proofs.YtgiegokdcmkfeaaGreatDoor
/-
 Chapter 6: numbers of texts, texts cut (the reference).
-/
namespace Go.Proofs.YtgiegokdcmkfeaaGreatDoor
open Go Go.Vx
set_option maxRecDepth 20000
theorem sIx_at {l : List UInt8} {j : Nat} {k : SV → Prop} (h : j < l.length) (hk : k (.v (.int .u8 ((l[j].toNat : Nat) : Int)))) : StrIx (bs l) (j : Int) k ⟨⟩ := StrIx.nat (s := bs l) (j := j) (by rw [bs_size]; exact h) hk
theorem sIx_0 {c : UInt8} {r : List UInt8} {k : SV → Prop} (hk : k (.v (.int .u8 ((c.toNat : Nat) : Int)))) : StrIx (bs (c :: r)) 0 k ⟨⟩ := sIx_at (l := c :: r) (j := 0) (by simp) hk
theorem sIx_x {l : List UInt8} {i : Int} {k : SV → Prop} (j : Nat) (x : UInt8) (hj : i = j) (h : l[j]? = some x) (hk : k (.v (.int .u8 ((x.toNat : Nat) : Int)))) : StrIx (bs l) i k ⟨⟩ := by
 obtain ⟨h1, h2⟩ := List.getElem?_eq_some_iff.1 h
 subst hj
 refine sIx_at h1 ?_
 rw [h2]; exact hk
theorem sIx_1 {c d : UInt8} {r : List UInt8} {k : SV → Prop} (hk : k (.v (.int .u8 ((d.toNat : Nat) : Int)))) : StrIx (bs (c :: d :: r)) 1 k ⟨⟩ := sIx_at (l := c :: d :: r) (j := 1) (by simp) hk
theorem u8_eq {a b : UInt8} : a = b ↔ a.toNat = b.toNat := UInt8.toNat_inj.symm
theorem valD_lt : ∀ (l : List UInt8) (acc : Nat), l.all dgB = true → valD acc l < (acc + 1) * 10 ^ l.length
 | [], acc, _ => by simp [valD]
 | c :: r, acc, h => by
  rw [List.all_cons, Bool.and_eq_true] at h
  have hc : 48 ≤ c.toNat ∧ c.toNat ≤ 57 := by simpa [dgB] using h.1
  have ih := valD_lt r (acc * 10 + (c.toNat - 48)) h.2
  rw [valD_cons, List.length_cons, Nat.pow_succ]
  refine Nat.lt_of_lt_of_le ih ?_
  rw [Nat.mul_comm (10 ^ r.length) 10, ← Nat.mul_assoc]
  exact Nat.mul_le_mul_right _ (by omega)
theorem valD_17 {a : List UInt8} (h : a.all dgB = true) (hl : a.length ≤ 17) : valD 0 a < 10 ^ 17 := by
 have := valD_lt a 0 h
 rw [Nat.zero_add, Nat.one_mul] at this
 exact Nat.lt_of_lt_of_le this (Nat.pow_le_pow_right (by decide) hl)
theorem valD_bd {a : List UInt8} (h : a.all dgB = true) (hl : a.length ≤ 18) : valD 0 a < 10 ^ 18 := (parse_of a 0 0 h (by decide) (by omega)).2
structure NS where
 a : List UInt8
 b : List UInt8
set_option maxHeartbeats 4000000 in
theorem number_R (l : List UInt8) (dg : Nat) (hd : dg ≤ 18) (hll : l.length ≤ 1000000) : Ctr Tryz.prog 87 [(.v (.string (bs l))), (.v (.int .i64 ((dg : Int))))] (fun rr => rr = ⟨.tup [(.v (.int .i64 ((numR l dg).1))), (.v (.bool ((numR l dg).2)))], []⟩) := by
 rcases l with _ | ⟨c, r⟩
 ·have hv : numR [] dg = (0, false) := by simp [numR]
  rw [hv]
  refine Ctr.of (rs := [.tmp 4, .tmp 5]) Tok true Tryz.func87 rfl rfl rfl rfl (by simp [ofDL]) (fun w0 kp => ?_)
  simp only [↓sx0, sxE, encs, sevalprocAttr]
  rw [bs_size]
  refine BrW.no (by simp) ?_
  simp only [↓sx0, sxE, encs, sevalprocAttr]
  rw [bs_size]
  refine BrW.yes (by simp) ?_
  simp only [↓sx0, sxE, encs, sevalprocAttr]
  refine EndW.fn ?_ ?_ <;> simp only [sx4, encs, kpLL_map, sxR, sevalprocAttr] <;> (try simp) <;> (try omega)
 ·refine Ctr.of (rs := [.tmp 4, .tmp 5]) Tok true Tryz.func87 rfl rfl rfl rfl (by simp [ofDL]) (fun w0 kp => ?_)
  simp only [↓sx0, sxE, encs, sevalprocAttr]
  rw [bs_size]
  refine BrW.yes (by simp) ?_
  simp only [↓sx0, sxE, encs, sevalprocAttr]
  refine sIx_0 ?_
  simp only [↓sx0, sxE, encs, sevalprocAttr]
  refine BrW.dec (fun h45 => ?_) (fun h45 => ?_)
  ·have hc : c = 45 := u8_eq.2 (by rw [show (45 : UInt8).toNat = 45 from rfl]; omega)
   subst hc
   have hsz1 : ((45 : UInt8) :: r).length = r.length + 1 := rfl
   simp only [↓sx0, sxE, encs, sevalprocAttr]
   rw [bs_size, hsz1]
   rcases r with _ | ⟨d, r⟩
   ·refine BrW.yes (by simp) ?_
    simp only [↓sx0, sxE, encs, sevalprocAttr]
    have hv : numR [45] dg = (0, false) := by simp [numR, numM]
    refine EndW.fn ?_ ?_ <;> simp only [sx4, encs, kpLL_map, sxR, sevalprocAttr] <;> (try simp [hv]) <;> (try omega)
   ·have hsz2 : ((45 : UInt8) :: d :: r).length = r.length + 2 := rfl
    refine BrW.no (by simp only [List.length_cons]; omega) ?_
    simp only [↓sx0, sxE, encs, sevalprocAttr]
    rw [bs_size, hsz2]
    repeat ((with_reducible refine Vc.go ?_ fun _ => ?_); (focus (first | omega | (simp only [InK]; omega) | (simp [InK]; done) | (simp [InK]; omega))); simp only [↓sx0, sxE, encs, sevalprocAttr])
    refine BrW.dec (fun hbig => ?_) (fun hbig => ?_)
    ·simp only [↓sx0, sxE, encs, sevalprocAttr]
     have hv : numR (45 :: d :: r) dg = (0, false) := by
      rw [numR, if_pos (show ((45 : UInt8) :: d :: r).head? = some 45 from rfl), List.tail_cons, numM, if_pos (.inr (.inl (by simp only [List.length_cons]; omega)))]
     refine EndW.fn ?_ ?_ <;> simp only [sx4, encs, kpLL_map, sxR, sevalprocAttr] <;> (try simp [hv]) <;> (try omega)
    ·simp only [↓sx0, sxE, encs, sevalprocAttr]
     refine sIx_1 ?_
     simp only [↓sx0, sxE, encs, sevalprocAttr]
     refine BrW.dec (fun h48 => ?_) (fun h48 => ?_)
     ·simp only [↓sx0, sxE, encs, sevalprocAttr]
      rw [bs_size, hsz2]
      refine BrW.yes (by omega) ?_
      simp only [↓sx0, sxE, encs, sevalprocAttr]
      have hd48 : d = 48 := u8_eq.2 (by rw [show (48 : UInt8).toNat = 48 from rfl]; omega)
      have hv : numR (45 :: d :: r) dg = (0, false) := by
       rw [numR, if_pos (show ((45 : UInt8) :: d :: r).head? = some 45 from rfl), List.tail_cons, numM, if_pos (.inr (.inr (by rw [hd48]; rfl)))]
      refine EndW.fn ?_ ?_ <;> simp only [sx4, encs, kpLL_map, sxR, sevalprocAttr] <;> (try simp [hv]) <;> (try omega)
     ·have hd48 : ¬ d = 48 := fun e => h48 (by rw [e]; rfl)
      simp only [↓sx0, sxE, encs, sevalprocAttr]
      have bad : (d :: r).all dgB = false → numR (45 :: d :: r) dg = (0, false) := fun h => by
       rw [numR, if_pos (show ((45 : UInt8) :: d :: r).head? = some 45 from rfl), List.tail_cons, numM, if_neg (by simp only [List.length_cons, List.head?_cons, Option.some.injEq]; rintro (h | h | h) <;> first | omega | exact hd48 h)]
       rw [if_neg (by rw [h]; simp)]
      have good : (d :: r).all dgB = true → numR (45 :: d :: r) dg = (-(valD 0 (d :: r) : Int), true) := fun h => by
       rw [numR, if_pos (show ((45 : UInt8) :: d :: r).head? = some 45 from rfl), List.tail_cons, numM, if_neg (by simp only [List.length_cons, List.head?_cons, Option.some.injEq]; rintro (h | h | h) <;> first | omega | exact hd48 h)]
       rw [if_pos h]
      refine LoopW.comp [0, 6, 7, 8] (by simp only [sx2, encs, sxR, sevalprocAttr] <;> (try simp) <;> (try omega)) ?_
      simp only [sx2, sxR, sevalprocAttr]
      refine LoopW.up Tok (fun s : NS => [(8, (.v (.int .i64 (1 + s.a.length)))), (7, (.v (.int .i64 ((valD 0 s.a : Int)))))]) (fun s => []) (fun s => []) (fun s => []) (fun s => d :: r = s.a ++ s.b ∧ s.a.all dgB = true) (fun s => s.b.length) (⟨[], d :: r⟩) (by simp only [sx2, encs, sxR, sevalprocAttr] <;> (try simp [valD, List.foldl_nil, encs]) <;> (try omega)) ?_ ?_
      ·exact ⟨rfl, rfl⟩
      rintro ⟨a, b⟩ ⟨hE, ha⟩
      simp only at hE ha
      have hlen : (d :: r).length = a.length + b.length := by rw [hE, List.length_append]
      have hrl : (d :: r).length = r.length + 1 := rfl
      have ha18 : a.length ≤ 18 := by omega
      have hbd := valD_bd ha ha18
      simp only [↓sx0, sxE, encs, sevalprocAttr]
      rw [bs_size, hsz2]
      rcases b with _ | ⟨x, b⟩
      ·rw [List.append_nil] at hE
       simp only [List.length_nil] at hlen
       refine BrW.no (by omega) ?_
       simp only [↓sx0, sxE, encs, sevalprocAttr]
       have hv : numR (45 :: d :: r) dg = (-(valD 0 a : Int), true) := by rw [good (by rw [hE]; exact ha), hE]
       repeat ((with_reducible refine Vc.go ?_ fun _ => ?_); (focus (first | omega | (simp only [InK]; omega) | (simp [InK]; done) | (simp [InK]; omega))); simp only [↓sx0, sxE, encs, sevalprocAttr])
       refine EndW.fn ?_ ?_ <;> simp only [sx4, encs, kpLL_map, sxR, sevalprocAttr] <;> (try simp [hv]) <;> (try omega)
      ·simp only [List.length_cons] at hlen
       refine BrW.yes (by omega) ?_
       simp only [↓sx0, sxE, encs, sevalprocAttr]
       have hb17 := valD_17 ha (by omega)
       have hx : (45 :: d :: r)[a.length + 1]? = some x := by
        rw [hE]; simp
       refine sIx_x (a.length + 1) x (by omega) hx ?_
       simp only [↓sx0, sxE, encs, sevalprocAttr]
       have badx : dgB x = false → numR (45 :: d :: r) dg = (0, false) := fun h => bad (by rw [hE, List.all_append, List.all_cons, h]; simp)
       refine BrW.dec (fun hl0 => ?_) (fun hl0 => ?_)
       ·simp only [↓sx0, sxE, encs, sevalprocAttr]
        have hv := badx (by simp only [dgB, decide_eq_false_iff_not]; omega)
        refine EndW.fn ?_ ?_ <;> simp only [sx4, encs, kpLL_map, sxR, sevalprocAttr] <;> (try simp [hv]) <;> (try omega)
       ·simp only [↓sx0, sxE, encs, sevalprocAttr]
        refine sIx_x (a.length + 1) x (by omega) hx ?_
        simp only [↓sx0, sxE, encs, sevalprocAttr]
        refine BrW.dec (fun hl1 => ?_) (fun hl1 => ?_)
        ·simp only [↓sx0, sxE, encs, sevalprocAttr]
         have hv := badx (by simp only [dgB, decide_eq_false_iff_not]; omega)
         refine EndW.fn ?_ ?_ <;> simp only [sx4, encs, kpLL_map, sxR, sevalprocAttr] <;> (try simp [hv]) <;> (try omega)
        ·simp only [↓sx0, sxE, encs, sevalprocAttr]
         repeat ((with_reducible refine Vc.go ?_ fun _ => ?_); (focus (first | omega | (simp only [InK]; omega) | (simp [InK]; done) | (simp [InK]; omega))); simp only [↓sx0, sxE, encs, sevalprocAttr])
         refine sIx_x (a.length + 1) x (by omega) hx ?_
         simp only [↓sx0, sxE, encs, sevalprocAttr]
         repeat ((with_reducible refine Vc.go ?_ fun _ => ?_); (focus (first | omega | (simp only [InK]; omega) | (simp [InK]; done) | (simp [InK]; omega))); simp only [↓sx0, sxE, encs, sevalprocAttr])
         have hvs : valD 0 (a ++ [x]) = valD 0 a * 10 + (x.toNat - 48) := by rw [valD_append]; rfl
         refine ⟨⟨a ++ [x], b⟩, StLe.auto (by simp only [sx2, encs, sxR, sevalprocAttr] <;> (try simp [hvs, encs]) <;> (try omega)), ?_, ?_⟩
         ·refine ⟨by simp only [hE, List.append_assoc, List.singleton_append], ?_⟩
          simp only [List.all_append, List.all_cons, List.all_nil, ha, dgB, Bool.true_and, Bool.and_true, decide_eq_true_eq]
          omega
         ·simp
  ·have hc : ¬ c = 45 := fun e => h45 (by rw [e]; rfl)
   have hsz2 : (c :: r).length = r.length + 1 := rfl
   simp only [↓sx0, sxE, encs, sevalprocAttr]
   rw [bs_size, hsz2]
   refine BrW.no (by omega) ?_
   simp only [↓sx0, sxE, encs, sevalprocAttr]
   rw [bs_size, hsz2]
   repeat ((with_reducible refine Vc.go ?_ fun _ => ?_); (focus (first | omega | (simp only [InK]; omega) | (simp [InK]; done) | (simp [InK]; omega))); simp only [↓sx0, sxE, encs, sevalprocAttr])
   refine BrW.dec (fun hbig => ?_) (fun hbig => ?_)
   ·simp only [↓sx0, sxE, encs, sevalprocAttr]
    have hv : numR (c :: r) dg = (0, false) := by
     rw [numR, if_neg (by simp [hc]), if_pos (.inr (.inl (by simp only [List.length_cons]; omega)))]
    refine EndW.fn ?_ ?_ <;> simp only [sx4, encs, kpLL_map, sxR, sevalprocAttr] <;> (try simp [hv]) <;> (try omega)
   ·simp only [↓sx0, sxE, encs, sevalprocAttr]
    refine sIx_0 ?_
    simp only [↓sx0, sxE, encs, sevalprocAttr]
    have key : ¬ (c = 48 ∧ 1 < (c :: r).length) → ¬ (c :: r = [] ∨ dg < (c :: r).length ∨ ((c :: r).head? = some 48 ∧ 1 < (c :: r).length)) := fun h => by
     rintro (h1 | h1 | h1)
     ·cases h1
     ·simp only [List.length_cons] at h1; omega
     ·exact h ⟨by simpa using h1.1, h1.2⟩
    refine BrW.dec (fun h48 => ?_) (fun h48 => ?_)
    ·simp only [↓sx0, sxE, encs, sevalprocAttr]
     rw [bs_size, hsz2]
     have hd48 : c = 48 := u8_eq.2 (by rw [show (48 : UInt8).toNat = 48 from rfl]; omega)
     refine BrW.dec (fun hone => ?_) (fun hone => ?_)
     ·simp only [↓sx0, sxE, encs, sevalprocAttr]
      have hv : numR (c :: r) dg = (0, false) := by
       rw [numR, if_neg (by simp [hc]), if_pos (.inr (.inr ⟨by rw [hd48]; rfl, by simp only [List.length_cons]; omega⟩))]
      refine EndW.fn ?_ ?_ <;> simp only [sx4, encs, kpLL_map, sxR, sevalprocAttr] <;> (try simp [hv]) <;> (try omega)
     ·have hno := key (fun h => hone (by have := h.2; simp only [List.length_cons] at this; omega))
      simp only [↓sx0, sxE, encs, sevalprocAttr]
      have bad : (c :: r).all dgB = false → numR (c :: r) dg = (0, false) := fun h => by
       rw [numR, if_neg (by simp [hc]), if_neg hno]
       rw [if_neg (by rw [h]; simp)]
      have good : (c :: r).all dgB = true → numR (c :: r) dg = ((valD 0 (c :: r) : Int), true) := fun h => by
       rw [numR, if_neg (by simp [hc]), if_neg hno]
       rw [if_pos h]
      refine LoopW.comp [0, 6, 7, 8] (by simp only [sx2, encs, sxR, sevalprocAttr] <;> (try simp) <;> (try omega)) ?_
      simp only [sx2, sxR, sevalprocAttr]
      refine LoopW.up Tok (fun s : NS => [(8, (.v (.int .i64 ( s.a.length)))), (7, (.v (.int .i64 ((valD 0 s.a : Int)))))]) (fun s => []) (fun s => []) (fun s => []) (fun s => c :: r = s.a ++ s.b ∧ s.a.all dgB = true) (fun s => s.b.length) (⟨[], c :: r⟩) (by simp only [sx2, encs, sxR, sevalprocAttr] <;> (try simp [valD, List.foldl_nil, encs]) <;> (try omega)) ?_ ?_
      ·exact ⟨rfl, rfl⟩
      rintro ⟨a, b⟩ ⟨hE, ha⟩
      simp only at hE ha
      have hlen : (c :: r).length = a.length + b.length := by rw [hE, List.length_append]
      have hrl : (c :: r).length = r.length + 1 := rfl
      have ha18 : a.length ≤ 18 := by omega
      have hbd := valD_bd ha ha18
      simp only [↓sx0, sxE, encs, sevalprocAttr]
      rw [bs_size, hsz2]
      rcases b with _ | ⟨x, b⟩
      ·rw [List.append_nil] at hE
       simp only [List.length_nil] at hlen
       refine BrW.no (by omega) ?_
       simp only [↓sx0, sxE, encs, sevalprocAttr]
       have hv : numR (c :: r) dg = ((valD 0 a : Int), true) := by rw [good (by rw [hE]; exact ha), hE]
       skip
       refine EndW.fn ?_ ?_ <;> simp only [sx4, encs, kpLL_map, sxR, sevalprocAttr] <;> (try simp [hv]) <;> (try omega)
      ·simp only [List.length_cons] at hlen
       refine BrW.yes (by omega) ?_
       simp only [↓sx0, sxE, encs, sevalprocAttr]
       have hb17 := valD_17 ha (by omega)
       have hx : (c :: r)[a.length]? = some x := by
        rw [hE]; simp
       refine sIx_x (a.length) x (by omega) hx ?_
       simp only [↓sx0, sxE, encs, sevalprocAttr]
       have badx : dgB x = false → numR (c :: r) dg = (0, false) := fun h => bad (by rw [hE, List.all_append, List.all_cons, h]; simp)
       refine BrW.dec (fun hl0 => ?_) (fun hl0 => ?_)
       ·simp only [↓sx0, sxE, encs, sevalprocAttr]
        have hv := badx (by simp only [dgB, decide_eq_false_iff_not]; omega)
        refine EndW.fn ?_ ?_ <;> simp only [sx4, encs, kpLL_map, sxR, sevalprocAttr] <;> (try simp [hv]) <;> (try omega)
       ·simp only [↓sx0, sxE, encs, sevalprocAttr]
        refine sIx_x (a.length) x (by omega) hx ?_
        simp only [↓sx0, sxE, encs, sevalprocAttr]
        refine BrW.dec (fun hl1 => ?_) (fun hl1 => ?_)
        ·simp only [↓sx0, sxE, encs, sevalprocAttr]
         have hv := badx (by simp only [dgB, decide_eq_false_iff_not]; omega)
         refine EndW.fn ?_ ?_ <;> simp only [sx4, encs, kpLL_map, sxR, sevalprocAttr] <;> (try simp [hv]) <;> (try omega)
        ·simp only [↓sx0, sxE, encs, sevalprocAttr]
         repeat ((with_reducible refine Vc.go ?_ fun _ => ?_); (focus (first | omega | (simp only [InK]; omega) | (simp [InK]; done) | (simp [InK]; omega))); simp only [↓sx0, sxE, encs, sevalprocAttr])
         refine sIx_x (a.length) x (by omega) hx ?_
         simp only [↓sx0, sxE, encs, sevalprocAttr]
         repeat ((with_reducible refine Vc.go ?_ fun _ => ?_); (focus (first | omega | (simp only [InK]; omega) | (simp [InK]; done) | (simp [InK]; omega))); simp only [↓sx0, sxE, encs, sevalprocAttr])
         have hvs : valD 0 (a ++ [x]) = valD 0 a * 10 + (x.toNat - 48) := by rw [valD_append]; rfl
         refine ⟨⟨a ++ [x], b⟩, StLe.auto (by simp only [sx2, encs, sxR, sevalprocAttr] <;> (try simp [hvs, encs]) <;> (try omega)), ?_, ?_⟩
         ·refine ⟨by simp only [hE, List.append_assoc, List.singleton_append], ?_⟩
          simp only [List.all_append, List.all_cons, List.all_nil, ha, dgB, Bool.true_and, Bool.and_true, decide_eq_true_eq]
          omega
         ·simp
    ·have hno := key (fun h => h48 (by rw [h.1]; rfl))
     simp only [↓sx0, sxE, encs, sevalprocAttr]
     have bad : (c :: r).all dgB = false → numR (c :: r) dg = (0, false) := fun h => by
      rw [numR, if_neg (by simp [hc]), if_neg hno]
      rw [if_neg (by rw [h]; simp)]
     have good : (c :: r).all dgB = true → numR (c :: r) dg = ((valD 0 (c :: r) : Int), true) := fun h => by
      rw [numR, if_neg (by simp [hc]), if_neg hno]
      rw [if_pos h]
     refine LoopW.comp [0, 6, 7, 8] (by simp only [sx2, encs, sxR, sevalprocAttr] <;> (try simp) <;> (try omega)) ?_
     simp only [sx2, sxR, sevalprocAttr]
     refine LoopW.up Tok (fun s : NS => [(8, (.v (.int .i64 ( s.a.length)))), (7, (.v (.int .i64 ((valD 0 s.a : Int)))))]) (fun s => []) (fun s => []) (fun s => []) (fun s => c :: r = s.a ++ s.b ∧ s.a.all dgB = true) (fun s => s.b.length) (⟨[], c :: r⟩) (by simp only [sx2, encs, sxR, sevalprocAttr] <;> (try simp [valD, List.foldl_nil, encs]) <;> (try omega)) ?_ ?_
     ·exact ⟨rfl, rfl⟩
     rintro ⟨a, b⟩ ⟨hE, ha⟩
     simp only at hE ha
     have hlen : (c :: r).length = a.length + b.length := by rw [hE, List.length_append]
     have hrl : (c :: r).length = r.length + 1 := rfl
     have ha18 : a.length ≤ 18 := by omega
     have hbd := valD_bd ha ha18
     simp only [↓sx0, sxE, encs, sevalprocAttr]
     rw [bs_size, hsz2]
     rcases b with _ | ⟨x, b⟩
     ·rw [List.append_nil] at hE
      simp only [List.length_nil] at hlen
      refine BrW.no (by omega) ?_
      simp only [↓sx0, sxE, encs, sevalprocAttr]
      have hv : numR (c :: r) dg = ((valD 0 a : Int), true) := by rw [good (by rw [hE]; exact ha), hE]
      skip
      refine EndW.fn ?_ ?_ <;> simp only [sx4, encs, kpLL_map, sxR, sevalprocAttr] <;> (try simp [hv]) <;> (try omega)
     ·simp only [List.length_cons] at hlen
      refine BrW.yes (by omega) ?_
      simp only [↓sx0, sxE, encs, sevalprocAttr]
      have hb17 := valD_17 ha (by omega)
      have hx : (c :: r)[a.length]? = some x := by
       rw [hE]; simp
      refine sIx_x (a.length) x (by omega) hx ?_
      simp only [↓sx0, sxE, encs, sevalprocAttr]
      have badx : dgB x = false → numR (c :: r) dg = (0, false) := fun h => bad (by rw [hE, List.all_append, List.all_cons, h]; simp)
      refine BrW.dec (fun hl0 => ?_) (fun hl0 => ?_)
      ·simp only [↓sx0, sxE, encs, sevalprocAttr]
       have hv := badx (by simp only [dgB, decide_eq_false_iff_not]; omega)
       refine EndW.fn ?_ ?_ <;> simp only [sx4, encs, kpLL_map, sxR, sevalprocAttr] <;> (try simp [hv]) <;> (try omega)
      ·simp only [↓sx0, sxE, encs, sevalprocAttr]
       refine sIx_x (a.length) x (by omega) hx ?_
       simp only [↓sx0, sxE, encs, sevalprocAttr]
       refine BrW.dec (fun hl1 => ?_) (fun hl1 => ?_)
       ·simp only [↓sx0, sxE, encs, sevalprocAttr]
        have hv := badx (by simp only [dgB, decide_eq_false_iff_not]; omega)
        refine EndW.fn ?_ ?_ <;> simp only [sx4, encs, kpLL_map, sxR, sevalprocAttr] <;> (try simp [hv]) <;> (try omega)
       ·simp only [↓sx0, sxE, encs, sevalprocAttr]
        repeat ((with_reducible refine Vc.go ?_ fun _ => ?_); (focus (first | omega | (simp only [InK]; omega) | (simp [InK]; done) | (simp [InK]; omega))); simp only [↓sx0, sxE, encs, sevalprocAttr])
        refine sIx_x (a.length) x (by omega) hx ?_
        simp only [↓sx0, sxE, encs, sevalprocAttr]
        repeat ((with_reducible refine Vc.go ?_ fun _ => ?_); (focus (first | omega | (simp only [InK]; omega) | (simp [InK]; done) | (simp [InK]; omega))); simp only [↓sx0, sxE, encs, sevalprocAttr])
        have hvs : valD 0 (a ++ [x]) = valD 0 a * 10 + (x.toNat - 48) := by rw [valD_append]; rfl
        refine ⟨⟨a ++ [x], b⟩, StLe.auto (by simp only [sx2, encs, sxR, sevalprocAttr] <;> (try simp [hvs, encs]) <;> (try omega)), ?_, ?_⟩
        ·refine ⟨by simp only [hE, List.append_assoc, List.singleton_append], ?_⟩
         simp only [List.all_append, List.all_cons, List.all_nil, ha, dgB, Bool.true_and, Bool.and_true, decide_eq_true_eq]
         omega
        ·simp
end Go.Proofs.YtgiegokdcmkfeaaGreatDoor
/-
 Chapter 6: texts cut (the reference).
-/
namespace Go.Proofs.YtgiegokdcmkfeaaGreatDoor
open Go Go.Vx
set_option maxRecDepth 20000
def eT (p : List UInt8) : List D := [(.v (.string (bs p)))]
theorem eT_def : ∀ p, eT p = [(.v (.string (bs p)))] := fun _ => rfl
theorem bs_ext (A p B : List UInt8) (i j : Nat) (hi : i = A.length) (hj : j = A.length + p.length) : (bs (A ++ p ++ B)).extract i j = bs p := by
 subst hi hj
 apply ByteArray.ext
 simp only [bs, ByteArray.data_extract]
 apply Array.toList_inj.1
 simp [List.extract_eq_take_drop, List.drop_append, List.take_append]
structure CS where
 A : List UInt8
 p : List UInt8
 b : List UInt8
 O : List (List UInt8)
set_option maxHeartbeats 4000000 in
theorem cut_R (l : List UInt8) (c : UInt8) (hll : l.length ≤ 1000000) : Ctr Tryz.prog 58 [(.v (.string (bs l))), .v (.int .u8 (c.toNat : Int))] (fun rr => rr = ⟨.sl true 1 ((cutL c [] l).map eT), []⟩) := by
 have encs := And.intro encs eT_def
 refine Ctr.of (rs := [.tmp 4]) Tok true Tryz.func58 rfl rfl rfl rfl (by simp [ofDL]) (fun w0 kp => ?_)
 simp only [↓sx0, sxE, encs, sevalprocAttr]
 refine LoopW.comp [0, 1, 5, 6, 7] (by simp only [sx2, encs, sxR, sevalprocAttr] <;> (try simp) <;> (try omega)) ?_
 simp only [sx2, sxR, sevalprocAttr]
 refine LoopW.up Tok (fun s : CS => [(5, .row 0), (6, (.v (.int .i64 ((s.A.length : Int))))), (7, (.v (.int .i64 ((s.A.length : Int) + s.p.length))))]) (fun s => []) (fun s => []) (fun s => [.own 9 1 (s.O.map eT)]) (fun s => l = s.A ++ s.p ++ s.b ∧ cutL c [] l = s.O ++ cutL c s.p s.b ∧ s.O.length ≤ s.A.length) (fun s => s.b.length) (⟨[], [], l, []⟩) (by simp only [sx2, encs, sxR, sevalprocAttr] <;> (try simp) <;> (try omega)) ?_ ?_
 ·exact ⟨rfl, rfl, Nat.le_refl _⟩
 rintro ⟨A, p, b, O⟩ ⟨hl, hc, hO⟩
 simp only at hl hc hO
 have hlen : l.length = A.length + p.length + b.length := by rw [hl]; simp [Nat.add_assoc]
 simp only [↓sx0, sxE, encs, sevalprocAttr]
 rw [bs_size]
 rcases b with _ | ⟨x, b⟩
 ·simp only [List.length_nil] at hlen
  refine BrW.no (by omega) ?_
  simp only [↓sx0, sxE, encs, sevalprocAttr]
  have hsz := bs_size l
  have hex : ∀ i j, i = A.length → j = A.length + p.length → (bs l).extract i j = bs p := fun i j h1 h2 => by rw [hl]; exact bs_ext A p [] i j h1 h2
  repeat ((with_reducible refine Vc.go ?_ fun _ => ?_); (focus (first | omega | (simp only [InK]; omega) | (simp [InK]; done) | (simp [InK]; omega))); simp only [↓sx0, sxE, encs, sevalprocAttr])
  rw [hex _ _ (by omega) (by omega)]
  have hcc : cutL c [] l = O ++ [p] := by rw [hc, cutL]
  refine EndW.fn ?_ ?_ <;> simp only [sx4, encs, kpLL_map, sxR, sevalprocAttr] <;> (try simp [hcc, eT]) <;> (try omega)
 ·simp only [List.length_cons] at hlen
  refine BrW.yes (by omega) ?_
  simp only [↓sx0, sxE, encs, sevalprocAttr]
  have hx : l[A.length + p.length]? = some x := by rw [hl]; simp
  refine sIx_x (A.length + p.length) x (by omega) hx ?_
  simp only [↓sx0, sxE, encs, sevalprocAttr]
  have hsz := bs_size l
  refine BrW.dec (fun heq => ?_) (fun heq => ?_)
  ·have heq : x = c := u8_eq.2 (by omega)
   subst heq
   simp only [↓sx0, sxE, encs, sevalprocAttr]
   have hex : ∀ i j, i = A.length → j = A.length + p.length → (bs l).extract i j = bs p := fun i j h1 h2 => by rw [hl]; exact bs_ext A p (x :: b) i j h1 h2
   repeat ((with_reducible refine Vc.go ?_ fun _ => ?_); (focus (first | omega | (simp only [InK]; omega) | (simp [InK]; done) | (simp [InK]; omega))); simp only [↓sx0, sxE, encs, sevalprocAttr])
   rw [hex _ _ (by omega) (by omega)]
   repeat ((with_reducible refine Vc.go ?_ fun _ => ?_); (focus (first | omega | (simp only [InK]; omega) | (simp [InK]; done) | (simp [InK]; omega))); simp only [↓sx0, sxE, encs, sevalprocAttr])
   refine ⟨⟨A ++ p ++ [x], [], b, O ++ [p]⟩, StLe.auto (by simp only [sx2, encs, sxR, sevalprocAttr] <;> (try simp [eT, encs]) <;> (try omega)), ?_, ?_⟩
   ·refine ⟨by rw [hl]; simp, ?_, ?_⟩
    ·rw [hc, cutL, if_pos rfl]; simp
    ·simp; omega
   ·simp
  ·have heq : ¬ x = c := fun e => heq (by rw [e])
   simp only [↓sx0, sxE, encs, sevalprocAttr]
   repeat ((with_reducible refine Vc.go ?_ fun _ => ?_); (focus (first | omega | (simp only [InK]; omega) | (simp [InK]; done) | (simp [InK]; omega))); simp only [↓sx0, sxE, encs, sevalprocAttr])
   refine ⟨⟨A, p ++ [x], b, O⟩, StLe.auto (by simp only [sx2, encs, sxR, sevalprocAttr] <;> (try simp) <;> (try omega)), ?_, ?_⟩
   ·refine ⟨by rw [hl]; simp, ?_, hO⟩
    rw [hc, cutL, if_neg heq]
   ·simp
end Go.Proofs.YtgiegokdcmkfeaaGreatDoor
/-
 Chapter 6, walks: lines of texts, and the builder.
-/
namespace Go.Proofs.YtgiegokdcmkfeaaGreatDoor
open Go Go.Vx Go.Shelf Go.RowKit
set_option maxRecDepth 20000
theorem idx_T (l : List UInt8) : Ctr Tryz.prog 75 [(.v (.string (bs l))), .v (.int .u8 10)] (fun rr => rr = ⟨(.v (.int .i64 (Lib.indexByte l 10))), []⟩) :=
 Ctr.vals (xs := [.string (bs l), .int .u8 10]) Tryz.func75 rfl rfl (u := .int .i64 (Lib.indexByte l 10)) (fun g => rfl) fun w => (Any.strings_IndexByte laysIdx (bs l) 10 w).mono fun e w' ⟨he, hw⟩ => ⟨by rw [he, bs_toList]; rfl, by rw [hw]; exact Below.refl _ _⟩
theorem wstr_s : WStr Tryz.prog 31 84 5 :=
 ⟨⟨_, Tryz.func31, rfl, rfl⟩, fun B b p v n l s w hp hb ho hn hl hB => wstr_raw (ρ := laysJoinR) { laysJoin with } xJoin B b p v n l s w hp hb ho hn hl hB⟩
theorem bstr_s : BStr Tryz.prog 35 84 5 :=
 ⟨⟨_, Tryz.func35, rfl, rfl⟩, fun B b p v l w hb ho hl => bstr_raw (ρ := laysJoinR) { laysJoin with } xJoin B b p v l w hb ho hl, fun B b p w hb => Any.Builder_String_nil (ρ := laysJoinR) { laysJoin with } xJoin B b p w hb⟩
/-- the lines of a text, each with its end. -/
def finL : List (List UInt8) → List (List UInt8)
 | [] => []
 | [l] => if l = [] then [] else [l]
 | p :: q :: ps => (p ++ [10]) :: finL (q :: ps)
def lnsL (s : List UInt8) : List (List UInt8) := finL (cutL 10 [] s)
theorem cutL_ne (c : UInt8) : ∀ (l acc : List UInt8), ∃ p ps, cutL c acc l = p :: ps
 | [], acc => ⟨_, _, rfl⟩
 | b :: l, acc => by
  rw [cutL]
  split
  ·exact ⟨_, _, rfl⟩
  ·exact cutL_ne c l _
theorem lns_hit {A B : List UInt8} (h : ¬ (10 : UInt8) ∈ A) : lnsL (A ++ 10 :: B) = (A ++ [10]) :: lnsL B := by
 obtain ⟨p, ps, hp⟩ := cutL_ne 10 B []
 rw [lnsL, cut_hit A [] B h, hp, lnsL, hp, List.nil_append, finL]
theorem lns_miss {r : List UInt8} (h : ¬ (10 : UInt8) ∈ r) (hr : r ≠ []) : lnsL r = [r] := by
 rw [lnsL, cut_miss r [] h, List.nil_append, finL, if_neg hr]
theorem lns_nil : lnsL [] = [] := rfl
def lnY (p : List UInt8) : List SV := [(.v (.string (bs p)))]
theorem lnY_def : ∀ p, lnY p = [(.v (.string (bs p)))] := fun _ => rfl
structure LS where
 O : List (List UInt8)
 r : List UInt8
set_option maxHeartbeats 4000000 in
theorem linesIt_s (s : List UInt8) (hs : s.length ≤ 1000000) : ItCtrB Tryz.prog 74 9 [(.v (.string (bs s)))] [.box 0 0] ((lnsL s).map lnY) := by
 have encs := And.intro encs lnY_def
 refine ItCtrB.of Tok Tryz.func74 rfl rfl rfl rfl (by decide) (fun w0 kp yd hok => ?_)
 simp only [↓sx0, sxE, encs, sevalprocAttr]
 skip
 refine LoopW.comp [0, 1] (by simp only [sx2, encs, sxR, sevalprocAttr] <;> (try simp) <;> (try omega)) ?_
 simp only [sx2, sxR, sevalprocAttr]
 refine LoopW.upG Tok (fun x : LS => []) (fun x => [(0, [(.v (.string (bs x.r)))])]) (fun x => []) (fun x => []) (fun x => x.O.map lnY) (fun x => lnsL s = x.O ++ lnsL x.r ∧ x.r.length ≤ s.length) (fun x => x.r.length) (⟨[], s⟩) (by simp only [sx2, encs, sxR, sevalprocAttr] <;> (try simp [lnY, encs]) <;> (try omega)) ?_ ?_
 ·exact ⟨rfl, Nat.le_refl _⟩
 rintro ⟨O, r⟩ ⟨hO, hr⟩
 simp only at hO hr
 simp only [↓sx0, sxE, encs, sevalprocAttr]
 have hsz := bs_size r
 refine BrW.dec (fun hlt => ?_) (fun hlt => ?_)
 ·simp only [↓sx0, sxE, encs, sevalprocAttr]
  have hlt : 0 < r.length := by omega
  refine CallI.fn (idx_T r) (by simp only [sx3, encs, sxR, sevalprocAttr] <;> (try simp) <;> (try rfl)) ?_
  simp only [↓sx0, sxE, encs, sevalprocAttr]
  by_cases hm : (10 : UInt8) ∈ r
  ·obtain ⟨A, B, rfl, hA⟩ := split_first hm
   rw [Go.Vx.byte_at A B hA]
   have hlen : (A ++ 10 :: B).length = A.length + 1 + B.length := by simp; omega
   refine BrW.yes (by omega) ?_
   simp only [↓sx0, sxE, encs, sevalprocAttr]
   have e1 : ∀ i j, i = 0 → j = A.length + 1 → (bs (A ++ 10 :: B)).extract i j = bs (A ++ [10]) := fun i j h1 h2 => by
    rw [show A ++ 10 :: B = [] ++ (A ++ [10]) ++ B by simp]; exact bs_ext [] (A ++ [10]) B i j h1 (by simp [h2])
   have e2 : ∀ i j, i = A.length + 1 → j = A.length + 1 + B.length → (bs (A ++ 10 :: B)).extract i j = bs B := fun i j h1 h2 => by
    rw [show A ++ 10 :: B = (A ++ [10]) ++ B ++ [] by simp]; exact bs_ext (A ++ [10]) B [] i j (by simp [h1]) (by simp [h2])
   refine DrawW.plan Tok mixed (.q 0 <| .q 1 <| .q 2 <| .q 3 <| .q 4 <| .q 5 <| .q 6 <| .q 7 <| .q 8 <| .e 9 [] <| .done) (by kernel_rfl) (by kernel_rfl) ?_
   simp only [↓sx0, sxE, encs, sevalprocAttr]
   repeat ((with_reducible refine Vc.go ?_ fun _ => ?_); (focus (first | omega | (simp only [InK]; omega) | (simp [InK]; done) | (simp [InK]; omega))); simp only [↓sx0, sxE, encs, sevalprocAttr])
   rw [e1 _ _ (by omega) (by omega), e2 _ _ (by omega) (by omega)]
   have hst := lns_hit (B := B) hA
   have hpre : O.map lnY ++ [[(.v (.string (bs (A ++ [10]))))]] <+: (lnsL s).map lnY := by
    rw [hO, hst]
    exact ⟨(lnsL B).map lnY, by simp [lnY]⟩
   have hadd : (O ++ [A ++ [10]]).map lnY = O.map lnY ++ [[(.v (.string (bs (A ++ [10]))))]] := by simp [lnY]
   refine YldI.of (ys := O.map lnY) hok rfl rfl (by simp only [sx2, sxA, encs, sxR, sevalprocAttr] <;> rfl) (by simp only [sx2, sxA, encs, sxR, sevalprocAttr] <;> rfl) rfl rfl rfl (hpre) ?_ ?_
   ·simp only [↓sx0, sxE, encs, sevalprocAttr]
    repeat ((with_reducible refine Vc.go ?_ fun _ => ?_); (focus (first | omega | (simp only [InK]; omega) | (simp [InK]; done) | (simp [InK]; omega))); simp only [↓sx0, sxE, encs, sevalprocAttr])
    refine ⟨⟨O ++ [A ++ [10]], B⟩, StLe.auto (by simp only [sx2, encs, sxR, sevalprocAttr] <;> (try simp [hadd, encs]) <;> (try omega)), ?_, ?_⟩
    ·exact ⟨by rw [hO, hst]; simp, by show B.length ≤ s.length; omega⟩
    ·simp only; omega
   ·simp only [↓sx0, sxE, encs, sevalprocAttr]
    intro h
    cases h
  ·rw [Go.Vx.byte_no r hm]
   refine BrW.no (by omega) ?_
   have hst := lns_miss hm (fun e => by rw [e] at hlt; simp at hlt)
   have hpre : O.map lnY ++ [[(.v (.string (bs r)))]] <+: (lnsL s).map lnY := by
    rw [hO, hst]
    exact ⟨[], by simp [lnY]⟩
   have hadd : (O ++ [r]).map lnY = O.map lnY ++ [[(.v (.string (bs r)))]] := by simp [lnY]
   simp only [↓sx0, sxE, encs, sevalprocAttr]
   repeat ((with_reducible refine Vc.go ?_ fun _ => ?_); (focus (first | omega | (simp only [InK]; omega) | (simp [InK]; done) | (simp [InK]; omega))); simp only [↓sx0, sxE, encs, sevalprocAttr])
   refine YldI.of (ys := O.map lnY) hok rfl rfl (by simp only [sx2, sxA, encs, sxR, sevalprocAttr] <;> rfl) (by simp only [sx2, sxA, encs, sxR, sevalprocAttr] <;> rfl) rfl rfl rfl (hpre) ?_ ?_
   ·simp only [↓sx0, sxE, encs, sevalprocAttr]
    repeat ((with_reducible refine Vc.go ?_ fun _ => ?_); (focus (first | omega | (simp only [InK]; omega) | (simp [InK]; done) | (simp [InK]; omega))); simp only [↓sx0, sxE, encs, sevalprocAttr])
    refine ⟨⟨O ++ [r], []⟩, StLe.auto (by simp only [sx2, encs, sxR, sevalprocAttr] <;> (try simp [hadd, bs_nil, encs]) <;> (try omega)), ?_, ?_⟩
    ·exact ⟨by rw [hO, hst, lns_nil]; simp, by simp⟩
    ·simp only [List.length_nil]; omega
   ·simp only [↓sx0, sxE, encs, sevalprocAttr]
    intro h
    cases h
 ·simp only [↓sx0, sxE, encs, sevalprocAttr]
  have hr0 : r = [] := List.length_eq_zero_iff.1 (by omega)
  subst hr0
  rw [lns_nil, List.append_nil] at hO
  rw [hO]
  intro _
  rfl
theorem b10 : (⟨#[10]⟩ : ByteArray) = bs [10] := rfl
theorem sz10 : (⟨#[10]⟩ : ByteArray).size = 1 := rfl
theorem hasSuf_yes (A : List UInt8) (hl : A.length ≤ 1000000) : Ctr Tryz.prog 101 [(.v (.string (bs (A ++ [10])))), (.v (.string (⟨#[10]⟩)))] (fun rr => rr = ⟨(.v (.bool (true))), []⟩) := by
 have hsz := bs_size (A ++ [10])
 have hs1 := sz10
 have hex : ∀ i j, i = A.length → j = A.length + 1 → (bs (A ++ [10])).extract i j = bs [10] := fun i j h1 h2 => by
  rw [show A ++ [10] = A ++ [10] ++ [] by simp]; exact bs_ext A [10] [] i j h1 (by simp [h2])
 simp only [List.length_append, List.length_singleton] at hsz
 refine Ctr.of (rs := [.tmp 4]) Tok true Tryz.func101 rfl rfl rfl rfl (by simp [ofDL]) (fun w0 kp => ?_)
 simp only [↓sx0, sxE, encs, sevalprocAttr]
 refine BrW.yes (by omega) ?_
 simp only [↓sx0, sxE, encs, sevalprocAttr]
 repeat ((with_reducible refine Vc.go ?_ fun _ => ?_); (focus (first | omega | (simp only [InK]; omega) | (simp [InK]; done) | (simp [InK]; omega))); simp only [↓sx0, sxE, encs, sevalprocAttr])
 rw [hex _ _ (by omega) (by omega)]
 refine EndW.fn ?_ ?_ <;> simp only [sx4, encs, kpLL_map, sxR, sevalprocAttr] <;> (try simp [b10]) <;> (try omega)
theorem hasSuf_no (r : List UInt8) (hr : r ≠ []) (hn : ¬ (10 : UInt8) ∈ r) (hl : r.length ≤ 1000000) : Ctr Tryz.prog 101 [(.v (.string (bs r))), (.v (.string (⟨#[10]⟩)))] (fun rr => rr = ⟨(.v (.bool (false))), []⟩) := by
 obtain ⟨A, x, rfl⟩ : ∃ A x, r = A ++ [x] := ⟨r.dropLast, r.getLast hr, (List.dropLast_concat_getLast hr).symm⟩
 have hsz := bs_size (A ++ [x])
 have hs1 := sz10
 have hx : ¬ x = 10 := fun e => hn (by simp [e])
 have hex : ∀ i j, i = A.length → j = A.length + 1 → (bs (A ++ [x])).extract i j = bs [x] := fun i j h1 h2 => by
  rw [show A ++ [x] = A ++ [x] ++ [] by simp]; exact bs_ext A [x] [] i j h1 (by simp [h2])
 simp only [List.length_append, List.length_singleton] at hsz hl
 have hne : ¬ bs [x] = ⟨#[10]⟩ := fun e => hx (by rw [b10, bs_inj] at e; simpa using e)
 refine Ctr.of (rs := [.tmp 4]) Tok true Tryz.func101 rfl rfl rfl rfl (by simp [ofDL]) (fun w0 kp => ?_)
 simp only [↓sx0, sxE, encs, sevalprocAttr]
 refine BrW.yes (by omega) ?_
 simp only [↓sx0, sxE, encs, sevalprocAttr]
 repeat ((with_reducible refine Vc.go ?_ fun _ => ?_); (focus (first | omega | (simp only [InK]; omega) | (simp [InK]; done) | (simp [InK]; omega))); simp only [↓sx0, sxE, encs, sevalprocAttr])
 rw [hex _ _ (by omega) (by omega)]
 refine EndW.fn ?_ ?_ <;> simp only [sx4, encs, kpLL_map, sxR, sevalprocAttr] <;> (try simp [hne]) <;> (try omega)
theorem cutSuf_yes (A : List UInt8) (hl : A.length ≤ 1000000) : Ctr Tryz.prog 37 [(.v (.string (bs (A ++ [10])))), (.v (.string (⟨#[10]⟩)))] (fun rr => rr = ⟨.tup [(.v (.string (bs A))), (.v (.bool (true)))], []⟩) := by
 have hsz := bs_size (A ++ [10])
 have hs1 := sz10
 have hex : ∀ i j, i = 0 → j = A.length → (bs (A ++ [10])).extract i j = bs A := fun i j h1 h2 => by
  rw [show A ++ [10] = [] ++ A ++ [10] by simp]; exact bs_ext [] A [10] i j h1 (by simp [h2])
 simp only [List.length_append, List.length_singleton] at hsz
 refine Ctr.of (rs := [.tmp 4, .tmp 5]) Tok true Tryz.func37 rfl rfl rfl rfl (by simp [ofDL]) (fun w0 kp => ?_)
 simp only [↓sx0, sxE, encs, sevalprocAttr]
 refine CallI.inl (rs := [.tmp 4, .tmp 5]) Tok Tryz.func76 rfl rfl rfl rfl (by simp) (fun ρ σ μ fr lp => ?_)
 simp only [↓sx0, sxE, encs, sevalprocAttr]
 refine CallI.fn (hasSuf_yes A hl) (by simp only [sx3, encs, sxR, sevalprocAttr] <;> (try simp) <;> (try rfl)) ?_
 simp only [↓sx0, sxE, encs, sevalprocAttr]
 repeat ((with_reducible refine Vc.go ?_ fun _ => ?_); (focus (first | omega | (simp only [InK]; omega) | (simp [InK]; done) | (simp [InK]; omega))); simp only [↓sx0, sxE, encs, sevalprocAttr])
 rw [hex _ _ (by omega) (by omega)]
 refine EndW.fn ?_ ?_ <;> simp only [sx4, encs, kpLL_map, sxR, sevalprocAttr] <;> (try simp) <;> (try omega)
theorem cutSuf_no (r : List UInt8) (hr : r ≠ []) (hn : ¬ (10 : UInt8) ∈ r) (hl : r.length ≤ 1000000) : Ctr Tryz.prog 37 [(.v (.string (bs r))), (.v (.string (⟨#[10]⟩)))] (fun rr => rr = ⟨.tup [(.v (.string (bs r))), (.v (.bool (false)))], []⟩) := by
 refine Ctr.of (rs := [.tmp 4, .tmp 5]) Tok true Tryz.func37 rfl rfl rfl rfl (by simp [ofDL]) (fun w0 kp => ?_)
 simp only [↓sx0, sxE, encs, sevalprocAttr]
 refine CallI.inl (rs := [.tmp 4, .tmp 5]) Tok Tryz.func76 rfl rfl rfl rfl (by simp) (fun ρ σ μ fr lp => ?_)
 simp only [↓sx0, sxE, encs, sevalprocAttr]
 refine CallI.fn (hasSuf_no r hr hn hl) (by simp only [sx3, encs, sxR, sevalprocAttr] <;> (try simp) <;> (try rfl)) ?_
 simp only [↓sx0, sxE, encs, sevalprocAttr]
 refine EndW.fn ?_ ?_ <;> simp only [sx4, encs, kpLL_map, sxR, sevalprocAttr] <;> (try simp) <;> (try omega)
end Go.Proofs.YtgiegokdcmkfeaaGreatDoor
/-
 Chapter 6, walks: texts cut at a byte, once and all along.
-/
namespace Go.Proofs.YtgiegokdcmkfeaaGreatDoor
open Go Go.Vx Go.Shelf Go.RowKit
set_option maxRecDepth 20000
theorem idx1_T (l : List UInt8) (c : UInt8) : Ctr Tryz.prog 102 [(.v (.string (bs l))), (.v (.string (⟨#[c]⟩)))] (fun rr => rr = ⟨(.v (.int .i64 (Lib.indexByte l c))), []⟩) :=
 Ctr.vals (xs := [.string (bs l), .string ⟨#[c]⟩]) Tryz.func102 rfl rfl (u := .int .i64 (Lib.indexByte l c)) (fun g => rfl) fun w => (Any.stringslite_Index_one (ρ := laysIndR) { laysInd with } (bs l) c w).mono fun e w' ⟨he, hw⟩ => ⟨by rw [he, bs_toList], by rw [hw]; exact Below.refl _ _⟩
theorem idx2_T (l : List UInt8) (c : UInt8) : Ctr Tryz.prog 109 [(.v (.string (bs l))), (.v (.string (⟨#[c]⟩)))] (fun rr => rr = ⟨(.v (.int .i64 (Lib.indexByte l c))), []⟩) :=
 Ctr.vals (xs := [.string (bs l), .string ⟨#[c]⟩]) Tryz.func109 rfl rfl (u := .int .i64 (Lib.indexByte l c)) (fun g => rfl) fun w => (Any.strings_Index_one laysInd (bs l) c w).mono fun e w' ⟨he, hw⟩ => ⟨by rw [he, bs_toList], by rw [hw]; exact Below.refl _ _⟩
theorem sz1 (c : UInt8) : (⟨#[c]⟩ : ByteArray).size = 1 := rfl
theorem cutS_hit (A B : List UInt8) (c : UInt8) (hA : ¬ c ∈ A) (hl : A.length + B.length ≤ 1000000) : Ctr Tryz.prog 38 [(.v (.string (bs (A ++ c :: B)))), (.v (.string (⟨#[c]⟩)))] (fun rr => rr = ⟨.tup [(.v (.string (bs A))), (.v (.string (bs B))), (.v (.bool (true)))], []⟩) := by
 have hsz := bs_size (A ++ c :: B)
 have hs1 := sz1 c
 have hlen : (A ++ c :: B).length = A.length + 1 + B.length := by simp; omega
 have e1 : ∀ i j, i = 0 → j = A.length → (bs (A ++ c :: B)).extract i j = bs A := fun i j h1 h2 => by
  rw [show A ++ c :: B = [] ++ A ++ c :: B by simp]; exact bs_ext [] A (c :: B) i j h1 (by simp [h2])
 have e2 : ∀ i j, i = A.length + 1 → j = A.length + 1 + B.length → (bs (A ++ c :: B)).extract i j = bs B := fun i j h1 h2 => by
  rw [show A ++ c :: B = (A ++ [c]) ++ B ++ [] by simp]; exact bs_ext (A ++ [c]) B [] i j (by simp [h1]) (by simp [h2])
 have hi := idx1_T (A ++ c :: B) c
 rw [Go.Vx.byte_at A B hA] at hi
 refine Ctr.of (rs := [.tmp 4, .tmp 5, .tmp 6]) Tok true Tryz.func38 rfl rfl rfl rfl (by simp [ofDL]) (fun w0 kp => ?_)
 simp only [↓sx0, sxE, encs, sevalprocAttr]
 refine CallI.inl (rs := [.tmp 4, .tmp 5, .tmp 6]) Tok Tryz.func77 rfl rfl rfl rfl (by simp) (fun ρ σ μ fr lp => ?_)
 simp only [↓sx0, sxE, encs, sevalprocAttr]
 refine CallI.fn (hi) (by simp only [sx3, encs, sxR, sevalprocAttr] <;> (try simp) <;> (try rfl)) ?_
 simp only [↓sx0, sxE, encs, sevalprocAttr]
 refine BrW.yes (by omega) ?_
 simp only [↓sx0, sxE, encs, sevalprocAttr]
 refine DrawW.plan Tok mixed (.q 0 <| .q 1 <| .q 2 <| .q 3 <| .q 4 <| .q 5 <| .q 6 <| .q 7 <| .q 8 <| .q 9 <| .q 10 <| .q 11 <| .done) (by kernel_rfl) (by kernel_rfl) ?_
 simp only [↓sx0, sxE, encs, sevalprocAttr]
 repeat ((with_reducible refine Vc.go ?_ fun _ => ?_); (focus (first | omega | (simp only [InK]; omega) | (simp [InK]; done) | (simp [InK]; omega))); simp only [↓sx0, sxE, encs, sevalprocAttr])
 rw [e1 _ _ (by omega) (by omega), e2 _ _ (by omega) (by omega)]
 refine EndW.fn ?_ ?_ <;> simp only [sx4, encs, kpLL_map, sxR, sevalprocAttr] <;> (try simp) <;> (try omega)
theorem cutS_miss (r : List UInt8) (c : UInt8) (hr : ¬ c ∈ r) : Ctr Tryz.prog 38 [(.v (.string (bs r))), (.v (.string (⟨#[c]⟩)))] (fun rr => rr = ⟨.tup [(.v (.string (bs r))), (.v (.string (bs []))), (.v (.bool (false)))], []⟩) := by
 have hi := idx1_T r c
 rw [Go.Vx.byte_no r hr] at hi
 refine Ctr.of (rs := [.tmp 4, .tmp 5, .tmp 6]) Tok true Tryz.func38 rfl rfl rfl rfl (by simp [ofDL]) (fun w0 kp => ?_)
 simp only [↓sx0, sxE, encs, sevalprocAttr]
 refine CallI.inl (rs := [.tmp 4, .tmp 5, .tmp 6]) Tok Tryz.func77 rfl rfl rfl rfl (by simp) (fun ρ σ μ fr lp => ?_)
 simp only [↓sx0, sxE, encs, sevalprocAttr]
 refine CallI.fn (hi) (by simp only [sx3, encs, sxR, sevalprocAttr] <;> (try simp) <;> (try rfl)) ?_
 simp only [↓sx0, sxE, encs, sevalprocAttr]
 refine EndW.fn ?_ ?_ <;> simp only [sx4, encs, kpLL_map, sxR, sevalprocAttr] <;> (try simp [bs]) <;> (try omega)
theorem cut1_hit {c : UInt8} {A B : List UInt8} (h : ¬ c ∈ A) : cutL c [] (A ++ c :: B) = A :: cutL c [] B := cut_hit A [] B h
theorem cut1_miss {c : UInt8} {r : List UInt8} (h : ¬ c ∈ r) : cutL c [] r = [r] := cut_miss r [] h
set_option maxHeartbeats 4000000 in
theorem splitIt_s (s : List UInt8) (c : UInt8) (hs : s.length ≤ 1000000) : ItCtrB Tryz.prog 136 9 [(.v (.string (bs s)))] [.pt true [(.v (.string (⟨#[c]⟩)))], .box 0 0, .pt true [(.v (.int .i64 0))]] ((cutL c [] s).map lnY) := by
 have encs := And.intro encs lnY_def
 have hs1 := sz1 c
 refine ItCtrB.of Tok Tryz.func136 rfl rfl rfl rfl (show 4 ≤ 52 by decide) (fun w0 kp yd hok => ?_)
 simp only [↓sx0, sxE, encs, sevalprocAttr]
 skip
 refine BrW.no (by omega) ?_
 simp only [↓sx0, sxE, encs, sevalprocAttr]
 refine LoopW.comp [0, 1, 2, 3] (by simp only [sx2, encs, sxR, sevalprocAttr] <;> (try simp) <;> (try omega)) ?_
 simp only [sx2, sxR, sevalprocAttr]
 refine LoopW.upG Tok (fun x : LS => []) (fun x => [(0, [(.v (.string (bs x.r)))])]) (fun x => []) (fun x => []) (fun x => x.O.map lnY) (fun x => cutL c [] s = x.O ++ cutL c [] x.r ∧ x.r.length ≤ s.length) (fun x => x.r.length) (⟨[], s⟩) (by simp only [sx2, encs, sxR, sevalprocAttr] <;> (try simp [lnY, encs]) <;> (try omega)) ?_ ?_
 ·exact ⟨rfl, Nat.le_refl _⟩
 rintro ⟨O, r⟩ ⟨hO, hr⟩
 simp only at hO hr
 simp only [↓sx0, sxE, encs, sevalprocAttr]
 have hsz := bs_size r
 refine CallI.fn (idx2_T r c) (by simp only [sx3, encs, sxR, sevalprocAttr] <;> (try simp) <;> (try rfl)) ?_
 simp only [↓sx0, sxE, encs, sevalprocAttr]
 by_cases hm : c ∈ r
 ·obtain ⟨A, B, rfl, hA⟩ := split_first hm
  rw [Go.Vx.byte_at A B hA]
  have hlen : (A ++ c :: B).length = A.length + 1 + B.length := by simp; omega
  refine BrW.no (by omega) ?_
  simp only [↓sx0, sxE, encs, sevalprocAttr]
  have e1 : ∀ i j, i = 0 → j = A.length → (bs (A ++ c :: B)).extract i j = bs A := fun i j h1 h2 => by
   rw [show A ++ c :: B = [] ++ A ++ c :: B by simp]; exact bs_ext [] A (c :: B) i j h1 (by simp [h2])
  have e2 : ∀ i j, i = A.length + 1 → j = A.length + 1 + B.length → (bs (A ++ c :: B)).extract i j = bs B := fun i j h1 h2 => by
   rw [show A ++ c :: B = (A ++ [c]) ++ B ++ [] by simp]; exact bs_ext (A ++ [c]) B [] i j (by simp [h1]) (by simp [h2])
  have hst := cut1_hit (B := B) hA
  have hpre : O.map lnY ++ [[(.v (.string (bs A)))]] <+: (cutL c [] s).map lnY := by
   rw [hO, hst]
   exact ⟨(cutL c [] B).map lnY, by simp [lnY]⟩
  have hadd : (O ++ [A]).map lnY = O.map lnY ++ [[(.v (.string (bs A)))]] := by simp [lnY]
  repeat ((with_reducible refine Vc.go ?_ fun _ => ?_); (focus (first | omega | (simp only [InK]; omega) | (simp [InK]; done) | (simp [InK]; omega))); simp only [↓sx0, sxE, encs, sevalprocAttr])
  rw [e1 _ _ (by omega) (by omega)]
  refine YldI.of (ys := O.map lnY) hok rfl rfl (by simp only [sx2, sxA, encs, sxR, sevalprocAttr] <;> rfl) (by simp only [sx2, sxA, encs, sxR, sevalprocAttr] <;> rfl) rfl rfl rfl (hpre) ?_ ?_
  ·simp only [↓sx0, sxE, encs, sevalprocAttr]
   repeat ((with_reducible refine Vc.go ?_ fun _ => ?_); (focus (first | omega | (simp only [InK]; omega) | (simp [InK]; done) | (simp [InK]; omega))); simp only [↓sx0, sxE, encs, sevalprocAttr])
   rw [e2 _ _ (by omega) (by omega)]
   refine ⟨⟨O ++ [A], B⟩, StLe.auto (by simp only [sx2, encs, sxR, sevalprocAttr] <;> (try simp [hadd, encs]) <;> (try omega)), ?_, ?_⟩
   ·exact ⟨by rw [hO, hst]; simp, by show B.length ≤ s.length; omega⟩
   ·simp only; omega
  ·simp only [↓sx0, sxE, encs, sevalprocAttr]
   intro h
   cases h
 ·rw [Go.Vx.byte_no r hm]
  have hst := cut1_miss hm
  have hpre : O.map lnY ++ [[(.v (.string (bs r)))]] <+: (cutL c [] s).map lnY := by
   rw [hO, hst]
   exact ⟨[], by simp [lnY]⟩
  have hadd : (cutL c [] s).map lnY = O.map lnY ++ [[(.v (.string (bs r)))]] := by rw [hO, hst]; simp [lnY]
  refine BrW.yes (by omega) ?_
  simp only [↓sx0, sxE, encs, sevalprocAttr]
  refine YldI.of (ys := O.map lnY) hok rfl rfl (by simp only [sx2, sxA, encs, sxR, sevalprocAttr] <;> rfl) (by simp only [sx2, sxA, encs, sxR, sevalprocAttr] <;> rfl) rfl rfl rfl (hpre) ?_ ?_
  ·simp only [↓sx0, sxE, encs, sevalprocAttr]
   intro _
   exact hadd.symm
  ·simp only [↓sx0, sxE, encs, sevalprocAttr]
   intro h
   cases h
end Go.Proofs.YtgiegokdcmkfeaaGreatDoor
/-
 Chapter 6, walks: slices of leaves.
-/
namespace Go.Proofs.YtgiegokdcmkfeaaGreatDoor
open Go Go.Vx
set_option maxRecDepth 20000
/-- slices.Clone at leaves. -/
theorem clone_s (b : Bool) (els : List (List D)) (hk : kpLL els) (hl : els.length ≤ 1000000) : Ctr Tryz.prog 116 [.sl b 4 els] (fun rr => rr = ⟨.row 0, [.own 79 4 els]⟩) := by
 refine Ctr.of (rs := [.tmp 2]) Tok false Tryz.func116 rfl rfl rfl rfl (by simp [ofDL]) (fun w0 kp => ?_)
 simp only [↓sx0, sxE, encs, sevalprocAttr]
 intro z hz
 refine BrW.of (fun h => ?_) (fun h => ?_)
 ·simp only [↓sx0, sxE, encs, sevalprocAttr]
  rw [hz h]
  exact EndW.r [none] (by simp) (by simp only [sx4, sxF, encs, kpLL_map, sxR, sevalprocAttr] <;> simp) (by simp only [sx4, sxF, encs, kpLL_map, sxR, sevalprocAttr] <;> simp) (by simp only [sx4, sxF, encs, kpLL_map, sxR, sevalprocAttr] <;> simp) (by simp only [sx4, sxF, encs, kpLL_map, sxR, sevalprocAttr] <;> simp)
 ·simp only [↓sx0, sxE, encs, sevalprocAttr]
  (with_reducible refine Vc.go ?_ fun _ => ?_); focus (first | omega | (simp only [InK]; omega) | (simp [InK]; done) | (simp [InK]; omega))
  simp only [↓sx0, sxE, encs, sevalprocAttr]
  exact EndW.r [some 1] (by simp) (by simp only [sx4, sxF, encs, kpLL_map, sxR, sevalprocAttr] <;> simp [hk]) (by simp only [sx4, sxF, encs, kpLL_map, sxR, sevalprocAttr] <;> simp [hk]) (by simp only [sx4, sxF, encs, kpLL_map, sxR, sevalprocAttr] <;> simp [hk]) (by simp only [sx4, sxF, encs, kpLL_map, sxR, sevalprocAttr] <;> simp [hk])
/-- slices.Grow at leaves, from nil. -/
theorem grow_s (n : Nat) (hn : n ≤ 1000000) : Ctr Tryz.prog 141 [.v (.slice none 0 0), (.v (.int .i64 n))] (fun rr => rr = ⟨.row 0, [.own 79 4 []]⟩) := by
 refine Ctr.of (rs := [.tmp 4]) Tok false Tryz.func141 rfl rfl rfl rfl (by simp [ofDL]) (fun w0 kp => ?_)
 simp only [↓sx0, sxE, encs, sevalprocAttr]
 refine BrW.no (by omega) ?_
 simp only [↓sx0, sxE, encs, sevalprocAttr]
 (with_reducible refine Vc.go ?_ fun _ => ?_); focus (first | omega | (simp only [InK]; omega) | (simp [InK]; done) | (simp [InK]; omega))
 simp only [↓sx0, sxE, encs, sevalprocAttr]
 (with_reducible refine Vc.go ?_ fun _ => ?_); focus (first | omega | (simp only [InK]; omega) | (simp [InK]; done) | (simp [InK]; omega))
 simp only [↓sx0, sxE, encs, sevalprocAttr]
 refine BrW.dec (fun h => ?_) (fun h => ?_)
 ·simp only [↓sx0, sxE, encs, sevalprocAttr]
  (with_reducible refine Vc.go ?_ fun _ => ?_); focus (first | omega | (simp only [InK]; omega) | (simp [InK]; done) | (simp [InK]; omega))
  simp only [↓sx0, sxE, encs, sevalprocAttr]
  (with_reducible refine Vc.go ?_ fun _ => ?_); focus (first | omega | (simp only [InK]; omega) | (simp [InK]; done) | (simp [InK]; omega))
  simp only [↓sx0, sxE, encs, sevalprocAttr]
  (with_reducible refine Vc.go ?_ fun _ => ?_); focus (first | omega | (simp only [InK]; omega) | (simp [InK]; done) | (simp [InK]; omega))
  simp only [↓sx0, sxE, encs, sevalprocAttr]
  exact EndW.r [some 1] (by simp) (by simp only [sx4, sxF, encs, kpLL_map, sxR, sevalprocAttr] <;> simp) (by simp only [sx4, sxF, encs, kpLL_map, sxR, sevalprocAttr] <;> simp) (by simp only [sx4, sxF, encs, kpLL_map, sxR, sevalprocAttr] <;> simp) (by simp only [sx4, sxF, encs, kpLL_map, sxR, sevalprocAttr] <;> simp)
 ·simp only [↓sx0, sxE, encs, sevalprocAttr]
  exact EndW.r [none] (by simp) (by simp only [sx4, sxF, encs, kpLL_map, sxR, sevalprocAttr] <;> simp) (by simp only [sx4, sxF, encs, kpLL_map, sxR, sevalprocAttr] <;> simp) (by simp only [sx4, sxF, encs, kpLL_map, sxR, sevalprocAttr] <;> simp) (by simp only [sx4, sxF, encs, kpLL_map, sxR, sevalprocAttr] <;> simp)
theorem lens_take {α : Type} {ls : List (List α)} {k : Nat} (h : k < ls.length) : (ls.take (k + 1)).flatten = (ls.take k).flatten ++ ls[k] := by
 rw [List.take_succ_eq_append_getElem h, List.flatten_append]; simp only [List.flatten_cons, List.flatten_nil, List.append_nil]
theorem lens_le {α : Type} (ls : List (List α)) (k : Nat) : (ls.take k).flatten.length ≤ ls.flatten.length := by
 conv => rhs; rw [← List.take_append_drop k ls, List.flatten_append, List.length_append]
 omega
/-- slices.Concat at leaves. -/
theorem concat_s (b : Bool) (ls : List (List Leaf)) (hn : ls.length ≤ 1000) (hl : ls.flatten.length ≤ 1000000) :
  Ctr Tryz.prog 119 [.sl b 1 (ls.map eK)] (fun rr => rr = ⟨.row 0, [.own 79 4 (ls.flatten.map eL)]⟩) := by
 refine Ctr.of (rs := [.tmp 2]) Tok false Tryz.func119 rfl rfl rfl rfl (by simp [ofDL]) (fun w0 kp => ?_)
 simp only [↓sx0, sxE, encs, sevalprocAttr]
 refine LoopW.comp [0, 3, 9, 10, 11] (by simp only [sx2, encs, sxR, sevalprocAttr] <;> (try simp) <;> (try omega)) ?_
 simp only [sx2, sxR, sevalprocAttr]
 refine LoopW.up Tok (fun k : Nat => [(3, (.v (.int .i64 ((ls.take k).flatten.length)))), (11, (.v (.int .i64 k)))]) (fun k => []) (fun k => []) (fun k => []) (fun k => k ≤ ls.length) (fun k => ls.length - k) (0) (by simp only [sx2, encs, sxR, sevalprocAttr] <;> (try simp) <;> (try omega)) ?_ ?_
 ·omega
 rintro k hk
 have hb := lens_le ls k
 simp only [↓sx0, sxE, encs, sevalprocAttr]
 refine BrW.dec (fun hlt => ?_) (fun hlt => ?_)
 ·simp only [↓sx0, sxE, encs, sevalprocAttr]
  have hk' : k < ls.length := by omega
  have hb2 := lens_le ls (k + 1)
  rw [lens_take hk', List.length_append] at hb2
  refine IxW.nat hk' ?_
  simp only [↓sx0, sxE, encs, sevalprocAttr]
  (with_reducible refine Vc.go ?_ fun _ => ?_); focus (first | omega | (simp only [InK]; omega) | (simp [InK]; done) | (simp [InK]; omega))
  simp only [↓sx0, sxE, encs, sevalprocAttr]
  refine BrW.no (by omega) ?_
  simp only [↓sx0, sxE, encs, sevalprocAttr]
  (with_reducible refine Vc.go ?_ fun _ => ?_); focus (first | omega | (simp only [InK]; omega) | (simp [InK]; done) | (simp [InK]; omega))
  simp only [↓sx0, sxE, encs, sevalprocAttr]
  refine ⟨k + 1, StLe.auto (by simp only [sx2, encs, sxR, sevalprocAttr] <;> (try simp [lens_take hk', encs]) <;> (try omega)), ?_, ?_⟩
  ·omega
  ·omega
 ·simp only [↓sx0, sxE, encs, sevalprocAttr]
  have hke : k = ls.length := by omega
  subst hke
  rw [List.take_length]
  refine CallI.ctr (grow_s ls.flatten.length hl) (by simp only [sx3, encs, sxR, sevalprocAttr] <;> (try simp) <;> (try rfl)) ?_
  rintro _ rfl
  simp only [↓sx0, sxE, encs, sevalprocAttr]
  refine LoopW.comp [6, 25, 26, 27] (by simp only [sx2, encs, sxR, sevalprocAttr] <;> (try simp) <;> (try omega)) ?_
  simp only [sx2, sxR, sevalprocAttr]
  refine LoopW.up Tok (fun k : Nat => [(27, (.v (.int .i64 k)))]) (fun k => []) (fun k => [(0, (ls.take k).flatten.map eL)]) (fun k => []) (fun k => k ≤ ls.length) (fun k => ls.length - k) (0) (by simp only [sx2, encs, sxR, sevalprocAttr] <;> (try simp) <;> (try omega)) ?_ ?_
  ·omega
  rintro k hk
  have hb := lens_le ls k
  simp only [↓sx0, sxE, encs, sevalprocAttr]
  refine BrW.dec (fun hlt => ?_) (fun hlt => ?_)
  ·simp only [↓sx0, sxE, encs, sevalprocAttr]
   have hk' : k < ls.length := by omega
   have hb2 := lens_le ls (k + 1)
   rw [lens_take hk', List.length_append] at hb2
   refine IxW.nat hk' ?_
   simp only [↓sx0, sxE, encs, sevalprocAttr]
   (with_reducible refine Vc.go ?_ fun _ => ?_); focus (first | omega | (simp only [InK]; omega) | (simp [InK]; done) | (simp [InK]; omega))
   simp only [↓sx0, sxE, encs, sevalprocAttr]
   (with_reducible refine Vc.go ?_ fun _ => ?_); focus (first | omega | (simp only [InK]; omega) | (simp [InK]; done) | (simp [InK]; omega))
   simp only [↓sx0, sxE, encs, sevalprocAttr]
   refine ⟨k + 1, StLe.auto (by simp only [sx2, encs, sxR, sevalprocAttr] <;> (try simp [lens_take hk', encs]) <;> (try omega)), ?_, ?_⟩
   ·omega
   ·omega
  ·simp only [↓sx0, sxE, encs, sevalprocAttr]
   have hke : k = ls.length := by omega
   subst hke
   rw [List.take_length]
   exact EndW.r [some 0] (by simp) (by simp only [sx4, sxF, encs, kpLL_map, sxR, sevalprocAttr] <;> simp [kpLL_map, encs, kpL, kpD]) (by simp only [sx4, sxF, encs, kpLL_map, sxR, sevalprocAttr] <;> simp [kpLL_map, encs, kpL, kpD]) (by simp only [sx4, sxF, encs, kpLL_map, sxR, sevalprocAttr] <;> simp [kpLL_map, encs, kpL, kpD]) (by simp only [sx4, sxF, encs, kpLL_map, sxR, sevalprocAttr] <;> simp [kpLL_map, encs, kpL, kpD])
end Go.Proofs.YtgiegokdcmkfeaaGreatDoor
/-
 Chapter 6, walks: stacks turned.
-/
namespace Go.Proofs.YtgiegokdcmkfeaaGreatDoor
open Go Go.Vx
set_option maxRecDepth 20000
def flip (rnd : Bool) (l : Leaf) : Leaf := ⟨l.col, l.row, 1 - l.over, if rnd then 1 - l.round else l.round⟩
def rnd1 (l : Leaf) : Leaf := ⟨l.col, l.row, l.over, 1 - l.round⟩
def ovr1 (l : Leaf) : Leaf := ⟨l.col, l.row, 1 - l.over, l.round⟩
/-- turns are turns. -/
def Fine (l : List Leaf) : Prop := ∀ x ∈ l, (0 ≤ x.over ∧ x.over ≤ 1) ∧ 0 ≤ x.round ∧ x.round ≤ 1
/-- turned: a stack that is turned over, and round. -/
theorem turned_s (b : Bool) (l : List Leaf) (rnd : Bool) (hf : Fine l) (hl : l.length ≤ 1000000) :
  Ctr Tryz.prog 113 [.sl b 4 (l.map eL), (.v (.bool (rnd)))] (fun rr => rr = ⟨.row 0, [.own 79 4 ((l.reverse.map (flip rnd)).map eL)]⟩) := by
 refine Ctr.of (rs := [.tmp 4]) Tok false Tryz.func113 rfl rfl rfl rfl (by simp [ofDL]) (fun w0 kp => ?_)
 simp only [↓sx0, sxE, encs, sevalprocAttr]
 refine CallI.ctr (clone_s b (l.map eL) (by simp [kpLL_map, encs, kpL, kpD]) (by simpa using hl)) (by simp only [sx3, encs, sxR, sevalprocAttr] <;> (try simp) <;> (try rfl)) ?_
 rintro _ rfl
 simp only [↓sx0, sxE, encs, sevalprocAttr]
 refine CallI.inl (rs := []) Tok Tryz.func140 rfl rfl rfl rfl (by simp) (fun ρ σ μ fr lp => ?_)
 simp only [↓sx0, sxE, encs, sevalprocAttr]
 (with_reducible refine Vc.go ?_ fun _ => ?_); focus (first | omega | (simp only [InK]; omega) | (simp [InK]; done) | (simp [InK]; omega))
 simp only [↓sx0, sxE, encs, sevalprocAttr]
 refine LoopW.comp [0, 2, 3] (by simp only [sx2, encs, sxR, sevalprocAttr] <;> (try simp) <;> (try omega)) ?_
 simp only [sx2, sxR, sevalprocAttr]
 refine LoopW.up Tok (fun i : Nat => [(2, (.v (.int .i64 i))), (3, (.v (.int .i64 ((l.length : Int) - 1 - i))))]) (fun i => []) (fun i => [(0, (rv l i).map eL)]) (fun i => []) (fun i => 2 * i ≤ l.length) (fun i => l.length - i) (0) (by simp only [sx2, encs, sxR, sevalprocAttr] <;> (try simp [rv_zero, encs]) <;> (try omega)) ?_ ?_
 ·omega
 ·intro i hi
  simp only [↓sx0, sxE, encs, sevalprocAttr]
  refine BrW.dec (fun hlt => ?_) (fun hlt => ?_)
  ·simp only [↓sx0, sxE, encs, sevalprocAttr]
   have hj : i < l.length := by omega
   have hj2 : l.length - 1 - i < l.length := by omega
   have ej : ((l.length : Int) - 1 - i).toNat = l.length - 1 - i := by omega
   have g1 : (rv l i)[l.length - 1 - i]? = some l[l.length - 1 - i] := by rw [rv_at l i _ hj2 (by omega) (by omega), List.getElem?_eq_getElem hj2]
   have g2 : (rv l i)[i]? = some l[i] := by rw [rv_at l i _ hj (by omega) (by omega), List.getElem?_eq_getElem hj]
   have hst := rv_step l i (by omega)
   have h1 : ((rv l i).map eL).modify ((i : Int)).toNat (modE · 0 (eL l[l.length - 1 - i])) = ((rv l i).set i l[l.length - 1 - i]).map eL := by rw [Int.toNat_natCast]; exact modify_map g2 _ rfl
   have h2 : (((rv l i).set i l[l.length - 1 - i]).map eL).modify ((l.length : Int) - 1 - i).toNat (modE · 0 (eL l[i])) = (rv l (i + 1)).map eL := by
    rw [ej, ← hst]; exact modify_map (x := l[l.length - 1 - i]) (by rw [List.getElem?_set, if_neg (by omega)]; exact g1) _ rfl
   simp only [encs] at h1 h2
   refine DrawW.plan Tok mixed (.q 0 <| .q 1 <| .q 2 <| .q 3 <| .q 4 <| .q 5 <| .q 6 <| .q 7 <| .q 8 <| .q 9 <| .q 10 <| .q 11 <| .q 12 <| .e 13 [] <| .q 14 <| .e 15 [] <| .done) (by kernel_rfl) (by kernel_rfl) ?_
   simp only [↓sx0, sxE, encs, sevalprocAttr]
   (with_reducible refine Vc.go ?_ fun _ => ?_); focus (first | omega | (simp only [InK]; omega) | (simp [rv_length, InK]; done) | (simp [rv_length, InK]; omega))
   simp only [↓sx0, sxE, encs, sevalprocAttr]
   refine IxW.map l[l.length - 1 - i] (by omega) (by rw [ej]; exact g1) ?_
   simp only [↓sx0, sxE, encs, sevalprocAttr]
   (with_reducible refine Vc.go ?_ fun _ => ?_); focus (first | omega | (simp only [InK]; omega) | (simp [rv_length, InK]; done) | (simp [rv_length, InK]; omega))
   simp only [↓sx0, sxE, encs, sevalprocAttr]
   refine IxW.map l[i] (by omega) (by simpa using g2) ?_
   simp only [↓sx0, sxE, encs, sevalprocAttr]
   (with_reducible refine Vc.go ?_ fun _ => ?_); focus (first | omega | (simp only [InK]; omega) | (simp [rv_length, InK]; done) | (simp [rv_length, InK]; omega))
   simp only [↓sx0, sxE, encs, sevalprocAttr]
   (with_reducible refine Vc.go ?_ fun _ => ?_); focus (first | omega | (simp only [InK]; omega) | (simp [rv_length, InK]; done) | (simp [rv_length, InK]; omega))
   simp only [↓sx0, sxE, encs, sevalprocAttr]
   (with_reducible refine Vc.go ?_ fun _ => ?_); focus (first | omega | (simp only [InK]; omega) | (simp [rv_length, InK]; done) | (simp [rv_length, InK]; omega))
   simp only [↓sx0, sxE, encs, sevalprocAttr]
   (with_reducible refine Vc.go ?_ fun _ => ?_); focus (first | omega | (simp only [InK]; omega) | (simp [rv_length, InK]; done) | (simp [rv_length, InK]; omega))
   simp only [↓sx0, sxE, encs, sevalprocAttr]
   (with_reducible refine Vc.go ?_ fun _ => ?_); focus (first | omega | (simp only [InK]; omega) | (simp [InK]; done) | (simp [InK]; omega))
   simp only [↓sx0, sxE, encs, sevalprocAttr]
   (with_reducible refine Vc.go ?_ fun _ => ?_); focus (first | omega | (simp only [InK]; omega) | (simp [InK]; done) | (simp [InK]; omega))
   simp only [↓sx0, sxE, encs, sevalprocAttr]
   rw [h1, h2]
   refine ⟨i + 1, StLe.auto (by simp only [sx2, encs, sxR, sevalprocAttr] <;> (try simp) <;> (try omega)), ?_, ?_⟩
   ·omega
   ·omega
  ·simp only [↓sx0, sxE, encs, sevalprocAttr]
   rw [rv_end l i (by omega) (by omega)]
   generalize hr : l.reverse = r
   have hrl : r.length = l.length := by rw [← hr]; simp
   have hfr : Fine r := fun x hx => hf x (by rw [← hr] at hx; simpa using hx)
   clear hi hlt
   skip
   refine LoopW.comp [1, 5, 12, 13] (by simp only [sx2, encs, sxR, sevalprocAttr] <;> (try simp) <;> (try omega)) ?_
   simp only [sx2, sxR, sevalprocAttr]
   refine LoopW.up Tok (fun k : Nat => [(13, (.v (.int .i64 k)))]) (fun k => []) (fun k => [(0, (chg (flip rnd) r k).map eL)]) (fun k => []) (fun k => k ≤ r.length) (fun k => r.length - k) (0) (by simp only [sx2, encs, sxR, sevalprocAttr] <;> (try simp [chg_zero, encs]) <;> (try omega)) ?_ ?_
   ·omega
   intro k hk
   simp only [↓sx0, sxE, encs, sevalprocAttr]
   refine BrW.dec (fun hlt => ?_) (fun hlt => ?_)
   ·simp only [↓sx0, sxE, encs, sevalprocAttr]
    have hk' : k < r.length := by omega
    have hg := chg_at (flip rnd) r k hk'
    obtain ⟨⟨f1, f2⟩, f3, f4⟩ := hfr r[k] (List.getElem_mem hk')
    have hst := chg_step (flip rnd) r k hk'
    have h1 : ((chg (flip rnd) r k).map eL).modify ((k : Int)).toNat (modE · 2 [.v (.int .i64 (1 - r[k].over))]) = ((chg (flip rnd) r k).set k (ovr1 r[k])).map eL := by rw [Int.toNat_natCast]; exact modify_map hg _ rfl
    have hg2 : ((chg (flip rnd) r k).set k (ovr1 r[k]))[k]? = some (ovr1 r[k]) := List.getElem?_set_self (by simpa using hk')
    have h2 : (((chg (flip rnd) r k).set k (ovr1 r[k])).map eL).modify ((k : Int)).toNat (modE · 3 [.v (.int .i64 (1 - r[k].round))]) = ((chg (flip rnd) r k).set k (rnd1 (ovr1 r[k]))).map eL := by rw [Int.toNat_natCast, modify_map hg2 (rnd1 (ovr1 r[k])) rfl, List.set_set]
    (with_reducible refine Vc.go ?_ fun _ => ?_); focus (first | omega | (simp only [InK]; omega) | (simp [chg_length, InK]; done) | (simp [chg_length, InK]; omega))
    simp only [↓sx0, sxE, encs, sevalprocAttr]
    refine IxW.map r[k] (by omega) (by simpa using hg) ?_
    simp only [↓sx0, sxE, encs, sevalprocAttr]
    (with_reducible refine Vc.go ?_ fun _ => ?_); focus (first | omega | (simp only [InK]; omega) | (simp [InK]; done) | (simp [InK]; omega))
    simp only [↓sx0, sxE, encs, sevalprocAttr]
    (with_reducible refine Vc.go ?_ fun _ => ?_); focus (first | omega | (simp only [InK]; omega) | (simp [chg_length, InK]; done) | (simp [chg_length, InK]; omega))
    simp only [↓sx0, sxE, encs, sevalprocAttr]
    (with_reducible refine Vc.go ?_ fun _ => ?_); focus (first | omega | (simp only [InK]; omega) | (simp [chg_length, InK]; done) | (simp [chg_length, InK]; omega))
    simp only [↓sx0, sxE, encs, sevalprocAttr]
    rw [h1]
    refine BrW.of (fun hb => ?_) (fun hb => ?_)
    ·have e : rnd1 (ovr1 r[k]) = flip rnd r[k] := by simp [flip, rnd1, ovr1, hb]
     simp only [↓sx0, sxE, encs, sevalprocAttr]
     (with_reducible refine Vc.go ?_ fun _ => ?_); focus (first | omega | (simp only [InK]; omega) | (simp [chg_length, InK]; done) | (simp [chg_length, InK]; omega))
     simp only [↓sx0, sxE, encs, sevalprocAttr]
     refine IxW.map (ovr1 r[k]) (by omega) (by simpa using hg2) ?_
     simp only [↓sx0, sxE, encs, sevalprocAttr]
     (with_reducible refine Vc.go ?_ fun _ => ?_); focus (first | omega | (simp only [InK]; omega) | (simp [ovr1, InK]; done) | (simp [ovr1, InK]; omega))
     simp only [↓sx0, sxE, encs, sevalprocAttr]
     (with_reducible refine Vc.go ?_ fun _ => ?_); focus (first | omega | (simp only [InK]; omega) | (simp [chg_length, InK]; done) | (simp [chg_length, InK]; omega))
     simp only [↓sx0, sxE, encs, sevalprocAttr]
     (with_reducible refine Vc.go ?_ fun _ => ?_); focus (first | omega | (simp only [InK]; omega) | (simp [chg_length, InK]; done) | (simp [chg_length, InK]; omega))
     simp only [↓sx0, sxE, encs, sevalprocAttr]
     (with_reducible refine Vc.go ?_ fun _ => ?_); focus (first | omega | (simp only [InK]; omega) | (simp [InK]; done) | (simp [InK]; omega))
     simp only [↓sx0, sxE, encs, sevalprocAttr]
     rw [show (ovr1 r[k]).round = r[k].round from rfl, h2, e, hst]
     refine ⟨k + 1, StLe.auto (by simp only [sx2, encs, sxR, sevalprocAttr] <;> (try simp) <;> (try omega)), ?_, ?_⟩
     ·omega
     ·omega
    ·have e : ovr1 r[k] = flip rnd r[k] := by simp [flip, ovr1, hb]
     rw [e, hst]
     simp only [↓sx0, sxE, encs, sevalprocAttr]
     (with_reducible refine Vc.go ?_ fun _ => ?_); focus (first | omega | (simp only [InK]; omega) | (simp [InK]; done) | (simp [InK]; omega))
     simp only [↓sx0, sxE, encs, sevalprocAttr]
     refine ⟨k + 1, StLe.auto (by simp only [sx2, encs, sxR, sevalprocAttr] <;> (try simp) <;> (try omega)), ?_, ?_⟩
     ·omega
     ·omega
   ·simp only [↓sx0, sxE, encs, sevalprocAttr]
    have hke : k = r.length := by omega
    subst hke
    rw [chg_end]
    exact EndW.r [some 0] (by simp) (by simp only [sx4, sxF, encs, kpLL_map, sxR, sevalprocAttr] <;> simp [kpL, kpD]) (by simp only [sx4, sxF, encs, kpLL_map, sxR, sevalprocAttr] <;> simp [kpL, kpD]) (by simp only [sx4, sxF, encs, kpLL_map, sxR, sevalprocAttr] <;> simp [kpL, kpD]) (by simp only [sx4, sxF, encs, kpLL_map, sxR, sevalprocAttr] <;> simp [kpL, kpD])
end Go.Proofs.YtgiegokdcmkfeaaGreatDoor
/-
 Chapter 6, walks: piles turned over and round.
-/
namespace Go.Proofs.YtgiegokdcmkfeaaGreatDoor
open Go Go.Vx
set_option maxRecDepth 20000
theorem stack_s (b : Bool) (cols rows c r : Int) (ls : List (List Leaf)) (n : Nat) (l : List Leaf) (h : ls[n]? = some l) (hn : r * cols + c = n) (h1 : 0 ≤ r) (h2 : r ≤ 1000) (h3 : 0 ≤ cols) (h4 : cols ≤ 1000) (h5 : 0 ≤ c) (h6 : c ≤ 1000) :
  Ctr Tryz.prog 114 [.agg [(.v (.int .i64 cols)), (.v (.int .i64 rows)), .sl b 1 (ls.map eK)], (.v (.int .i64 c)), (.v (.int .i64 r))] (fun rr => rr = ⟨.sl true 4 (l.map eL), []⟩) := by
 have m1 : r * cols ≤ 1000 * 1000 := Int.mul_le_mul h2 h4 h3 (by omega)
 have m2 : 0 ≤ r * cols := Int.mul_nonneg h1 h3
 refine Ctr.of (rs := [.tmp 6]) Tok true Tryz.func114 rfl rfl rfl rfl (by simp [ofDL]) (fun w0 kp => ?_)
 simp only [↓sx0, sxE, encs, sevalprocAttr]
 (with_reducible refine Vc.go ?_ fun _ => ?_); focus (first | omega | (simp only [InK]; omega) | (simp [InK]; done) | (simp [InK]; omega))
 simp only [↓sx0, sxE, encs, sevalprocAttr]
 (with_reducible refine Vc.go ?_ fun _ => ?_); focus (first | omega | (simp only [InK]; omega) | (simp [InK]; done) | (simp [InK]; omega))
 simp only [↓sx0, sxE, encs, sevalprocAttr]
 refine IxW.map l (by omega) (by rw [hn]; simpa using h) ?_
 simp only [↓sx0, sxE, encs, sevalprocAttr]
 refine EndW.fn ?_ ?_ <;> simp only [sx4, encs, kpLL_map, sxR, sevalprocAttr] <;> (try simp [kpL, kpD]) <;> (try omega)
theorem over1_s (b b2 : Bool) (cols rows c r : Nat) (ls : List (List Leaf)) (l : List Leaf) (h : ls[r * cols + (cols - 1 - c)]? = some l) (h2 : r ≤ 1000) (h4 : cols ≤ 1000) (h5 : c < cols) (hf : Fine l) (hl : l.length ≤ 1000000) :
  Ctr Tryz.prog 112 [(.v (.int .i64 c)), (.v (.int .i64 r)), .pt b2 [.v (.int .i64 cols), .v (.int .i64 rows), .sl b 1 (ls.map eK)]] (fun rr => rr = ⟨.row 0, [.own 79 4 ((l.reverse.map (flip false)).map eL)]⟩) := by
 refine Ctr.of (rs := [.tmp 5]) Tok false Tryz.func112 rfl rfl rfl rfl (by simp [ofDL]) (fun w0 kp => ?_)
 simp only [↓sx0, sxE, encs, sevalprocAttr]
 (with_reducible refine Vc.go ?_ fun _ => ?_); focus (first | omega | (simp only [InK]; omega) | (simp [InK]; done) | (simp [InK]; omega))
 simp only [↓sx0, sxE, encs, sevalprocAttr]
 (with_reducible refine Vc.go ?_ fun _ => ?_); focus (first | omega | (simp only [InK]; omega) | (simp [InK]; done) | (simp [InK]; omega))
 simp only [↓sx0, sxE, encs, sevalprocAttr]
 refine CallI.fn (stack_s b cols rows ((cols : Int) - 1 - c) r ls _ l h (by push_cast; omega) (by omega) (by omega) (by omega) (by omega) (by omega) (by omega)) (by simp only [sx3, encs, sxR, sevalprocAttr] <;> (try simp) <;> (try rfl)) ?_
 simp only [↓sx0, sxE, encs, sevalprocAttr]
 refine CallI.ctr (turned_s true l false hf hl) (by simp only [sx3, encs, sxR, sevalprocAttr] <;> (try simp) <;> (try rfl)) ?_
 rintro _ rfl
 simp only [↓sx0, sxE, encs, sevalprocAttr]
 exact EndW.r [some 0] (by simp) (by simp only [sx4, sxF, encs, kpLL_map, sxR, sevalprocAttr] <;> simp [kpL, kpD]) (by simp only [sx4, sxF, encs, kpLL_map, sxR, sevalprocAttr] <;> simp [kpL, kpD]) (by simp only [sx4, sxF, encs, kpLL_map, sxR, sevalprocAttr] <;> simp [kpL, kpD]) (by simp only [sx4, sxF, encs, kpLL_map, sxR, sevalprocAttr] <;> simp [kpL, kpD])
theorem round1_s (b b2 : Bool) (cols rows c r : Nat) (ls : List (List Leaf)) (l : List Leaf) (h : ls[(rows - 1 - r) * cols + (cols - 1 - c)]? = some l) (h2 : rows ≤ 1000) (h4 : cols ≤ 1000) (h5 : c < cols) (h6 : r < rows) (hf : Fine l) (hl : l.length ≤ 1000000) :
  Ctr Tryz.prog 115 [(.v (.int .i64 c)), (.v (.int .i64 r)), .pt b2 [.v (.int .i64 cols), .v (.int .i64 rows), .sl b 1 (ls.map eK)]] (fun rr => rr = ⟨.row 0, [.own 79 4 ((l.map rnd1).map eL)]⟩) := by
 refine Ctr.of (rs := [.tmp 5]) Tok false Tryz.func115 rfl rfl rfl rfl (by simp [ofDL]) (fun w0 kp => ?_)
 simp only [↓sx0, sxE, encs, sevalprocAttr]
 (with_reducible refine Vc.go ?_ fun _ => ?_); focus (first | omega | (simp only [InK]; omega) | (simp [InK]; done) | (simp [InK]; omega))
 simp only [↓sx0, sxE, encs, sevalprocAttr]
 (with_reducible refine Vc.go ?_ fun _ => ?_); focus (first | omega | (simp only [InK]; omega) | (simp [InK]; done) | (simp [InK]; omega))
 simp only [↓sx0, sxE, encs, sevalprocAttr]
 (with_reducible refine Vc.go ?_ fun _ => ?_); focus (first | omega | (simp only [InK]; omega) | (simp [InK]; done) | (simp [InK]; omega))
 simp only [↓sx0, sxE, encs, sevalprocAttr]
 (with_reducible refine Vc.go ?_ fun _ => ?_); focus (first | omega | (simp only [InK]; omega) | (simp [InK]; done) | (simp [InK]; omega))
 simp only [↓sx0, sxE, encs, sevalprocAttr]
 refine CallI.fn (stack_s b cols rows ((cols : Int) - 1 - c) ((rows : Int) - 1 - r) ls _ l h (by rw [Int.natCast_add, Int.natCast_mul, show ((rows - 1 - r : Nat) : Int) = (rows : Int) - 1 - r by omega, show ((cols - 1 - c : Nat) : Int) = (cols : Int) - 1 - c by omega]) (by omega) (by omega) (by omega) (by omega) (by omega) (by omega)) (by simp only [sx3, encs, sxR, sevalprocAttr] <;> (try simp) <;> (try rfl)) ?_
 simp only [↓sx0, sxE, encs, sevalprocAttr]
 refine CallI.ctr (clone_s true (l.map eL) (by simp [kpLL_map, encs, kpL, kpD]) (by simpa using hl)) (by simp only [sx3, encs, sxR, sevalprocAttr] <;> (try simp) <;> (try rfl)) ?_
 rintro _ rfl
 simp only [↓sx0, sxE, encs, sevalprocAttr]
 refine LoopW.comp [6, 22, 23] (by simp only [sx2, encs, sxR, sevalprocAttr] <;> (try simp) <;> (try omega)) ?_
 simp only [sx2, sxR, sevalprocAttr]
 refine LoopW.up Tok (fun k : Nat => [(23, (.v (.int .i64 k)))]) (fun k => []) (fun k => [(0, (chg rnd1 l k).map eL)]) (fun k => []) (fun k => k ≤ l.length) (fun k => l.length - k) (0) (by simp only [sx2, encs, sxR, sevalprocAttr] <;> (try simp [chg_zero, encs]) <;> (try omega)) ?_ ?_
 ·omega
 intro k hk
 simp only [↓sx0, sxE, encs, sevalprocAttr]
 refine BrW.dec (fun hlt => ?_) (fun hlt => ?_)
 ·simp only [↓sx0, sxE, encs, sevalprocAttr]
  have hk' : k < l.length := by omega
  have hg := chg_at rnd1 l k hk'
  obtain ⟨⟨f1, f2⟩, f3, f4⟩ := hf l[k] (List.getElem_mem hk')
  have h1 : ((chg rnd1 l k).map eL).modify ((k : Int)).toNat (modE · 3 [.v (.int .i64 (1 - l[k].round))]) = (chg rnd1 l (k + 1)).map eL := by rw [Int.toNat_natCast, ← chg_step rnd1 l k hk']; exact modify_map hg _ rfl
  (with_reducible refine Vc.go ?_ fun _ => ?_); focus (first | omega | (simp only [InK]; omega) | (simp [chg_length, InK]; done) | (simp [chg_length, InK]; omega))
  simp only [↓sx0, sxE, encs, sevalprocAttr]
  refine IxW.map l[k] (by omega) (by simpa using hg) ?_
  simp only [↓sx0, sxE, encs, sevalprocAttr]
  (with_reducible refine Vc.go ?_ fun _ => ?_); focus (first | omega | (simp only [InK]; omega) | (simp [InK]; done) | (simp [InK]; omega))
  simp only [↓sx0, sxE, encs, sevalprocAttr]
  (with_reducible refine Vc.go ?_ fun _ => ?_); focus (first | omega | (simp only [InK]; omega) | (simp [chg_length, InK]; done) | (simp [chg_length, InK]; omega))
  simp only [↓sx0, sxE, encs, sevalprocAttr]
  (with_reducible refine Vc.go ?_ fun _ => ?_); focus (first | omega | (simp only [InK]; omega) | (simp [chg_length, InK]; done) | (simp [chg_length, InK]; omega))
  simp only [↓sx0, sxE, encs, sevalprocAttr]
  (with_reducible refine Vc.go ?_ fun _ => ?_); focus (first | omega | (simp only [InK]; omega) | (simp [InK]; done) | (simp [InK]; omega))
  simp only [↓sx0, sxE, encs, sevalprocAttr]
  rw [h1]
  refine ⟨k + 1, StLe.auto (by simp only [sx2, encs, sxR, sevalprocAttr] <;> (try simp) <;> (try omega)), ?_, ?_⟩
  ·omega
  ·omega
 ·simp only [↓sx0, sxE, encs, sevalprocAttr]
  have hke : k = l.length := by omega
  subst hke
  rw [chg_end]
  exact EndW.r [some 0] (by simp) (by simp only [sx4, sxF, encs, kpLL_map, sxR, sevalprocAttr] <;> simp [kpL, kpD]) (by simp only [sx4, sxF, encs, kpLL_map, sxR, sevalprocAttr] <;> simp [kpL, kpD]) (by simp only [sx4, sxF, encs, kpLL_map, sxR, sevalprocAttr] <;> simp [kpL, kpD]) (by simp only [sx4, sxF, encs, kpLL_map, sxR, sevalprocAttr] <;> simp [kpL, kpD])
/-- moved: a pile made place by place. -/
theorem moved_s (f : Nat) (caps : List SV) (hren : ∀ γ, renL γ caps = caps) (hle : ∀ β γ, leL β γ caps caps = True) (hlend : ∀ rw bx, argOk rw bx caps caps = True) (cols rows : Nat) (g : Nat → Nat → List Leaf) (hof : ∀ c r, c < cols → r < rows → Ctr Tryz.prog f ([(.v (.int .i64 c)), (.v (.int .i64 r))] ++ caps) (fun rr => rr = ⟨.row 0, [.own 79 4 ((g c r).map eL)]⟩)) (hc : cols ≤ 1000) (hr : rows ≤ 1000) :
  Ctr Tryz.prog 111 [(.v (.int .i64 cols)), (.v (.int .i64 rows)), .clo f caps] (fun rr => rr = ⟨.agg [(.v (.int .i64 cols)), (.v (.int .i64 rows)), .sl true 1 ((grid cols rows g).map eK)], []⟩) := by
 have hsz : rows * cols ≤ 1000 * 1000 := Nat.mul_le_mul hr hc
 have encs := And.intro encs (And.intro hren (And.intro hle hlend))
 refine Ctr.of (rs := [.cell 6 143]) Tok true Tryz.func111 rfl rfl rfl rfl (by simp [ofDL]) (fun w0 kp => ?_)
 simp only [↓sx0, sxE, encs, sevalprocAttr]
 refine LoopW.comp [0, 2, 6, 7, 13, 14] (by simp only [sx2, encs, sxR, sevalprocAttr] <;> (try simp) <;> (try omega)) ?_
 simp only [sx2, sxR, sevalprocAttr]
 refine LoopW.up Tok (fun r : Nat => [(14, (.v (.int .i64 r)))]) (fun r => [(1, [(.v (.int .i64 cols)), (.v (.int .i64 rows)), .row 0])]) (fun r => []) (fun r => [.own 75 1 ((grid cols r g).map eK)]) (fun r => r ≤ rows) (fun r => rows - r) (0) (by simp only [sx2, encs, sxR, sevalprocAttr] <;> (try simp) <;> (try omega)) ?_ ?_
 ·omega
 rintro r hr1
 simp only [↓sx0, sxE, encs, sevalprocAttr]
 refine BrW.dec (fun hlt => ?_) (fun hlt => ?_)
 ·simp only [↓sx0, sxE, encs, sevalprocAttr]
  have hr2 : r < rows := by omega
  refine LoopW.comp [0, 2, 6, 7, 8, 13, 14, 17, 18] (by simp only [sx2, encs, sxR, sevalprocAttr] <;> (try simp) <;> (try omega)) ?_
  simp only [sx2, sxR, sevalprocAttr]
  refine LoopW.up Tok (fun k : Nat => [(18, (.v (.int .i64 k)))]) (fun k => []) (fun k => [(0, ((grid cols r g) ++ gridRow k g r).map eK)]) (fun k => []) (fun k => k ≤ cols) (fun k => cols - k) (0) (by simp only [sx2, encs, sxR, sevalprocAttr] <;> (try simp) <;> (try omega)) ?_ ?_
  ·omega
  rintro k hk1
  have hlen : r * cols + k ≤ 1000000 := by
   have h1 : (r + 1) * cols ≤ rows * cols := Nat.mul_le_mul_right _ hr2
   rw [Nat.succ_mul] at h1
   omega
  simp only [↓sx0, sxE, encs, sevalprocAttr]
  refine BrW.dec (fun hlt2 => ?_) (fun hlt2 => ?_)
  ·simp only [↓sx0, sxE, encs, sevalprocAttr]
   refine DrawW.plan Tok mixed (.q 0 <| .q 1 <| .q 2 <| .q 3 <| .q 4 <| .e 5 [1] <| .e 6 [1] <| .e 7 [] <| .q 8 <| .e 9 [] <| .done) (by kernel_rfl) (by kernel_rfl) ?_
   simp only [↓sx0, sxE, encs, sevalprocAttr]
   refine CallI.ctr (hof k r (by omega) hr2) (by simp only [sx3, encs, sxR, sevalprocAttr] <;> (try simp) <;> (try rfl)) ?_
   rintro _ rfl
   simp only [↓sx0, sxE, encs, sevalprocAttr]
   (with_reducible refine Vc.go ?_ fun _ => ?_); focus (first | omega | (simp only [InK]; omega) | (simp [grid_length, gridRow_length, InK]; done) | (simp [grid_length, gridRow_length, InK]; omega))
   simp only [↓sx0, sxE, encs, sevalprocAttr]
   (with_reducible refine Vc.go ?_ fun _ => ?_); focus (first | omega | (simp only [InK]; omega) | (simp [InK]; done) | (simp [InK]; omega))
   simp only [↓sx0, sxE, encs, sevalprocAttr]
   refine ⟨k + 1, StLe.auto (by simp only [sx2, encs, sxR, sevalprocAttr] <;> (try simp [gridRow_succ, encs]) <;> (try omega)), ?_, ?_⟩
   ·omega
   ·omega
  ·simp only [↓sx0, sxE, encs, sevalprocAttr]
   have : k = cols := by omega
   subst this
   (with_reducible refine Vc.go ?_ fun _ => ?_); focus (first | omega | (simp only [InK]; omega) | (simp [InK]; done) | (simp [InK]; omega))
   simp only [↓sx0, sxE, encs, sevalprocAttr]
   refine ⟨r + 1, StLe.auto (by simp only [sx2, encs, sxR, sevalprocAttr] <;> (try simp [grid_succ, encs]) <;> (try omega)), ?_, ?_⟩
   ·omega
   ·omega
 ·simp only [↓sx0, sxE, encs, sevalprocAttr]
  have : r = rows := by omega
  subst this
  refine EndW.fn ?_ ?_ <;> simp only [sx4, encs, kpLL_map, sxR, sevalprocAttr] <;> (try simp) <;> (try omega)
end Go.Proofs.YtgiegokdcmkfeaaGreatDoor
/-
 Chapter 6, walks: piles laid over.
-/
namespace Go.Proofs.YtgiegokdcmkfeaaGreatDoor
open Go Go.Vx
set_option maxRecDepth 20000
/-- all stacks are fine, and not too high. -/
def FineP (ls : List (List Leaf)) : Prop := ∀ l ∈ ls, Fine l ∧ l.length ≤ 400000
def stkAt (ls : List (List Leaf)) (i : Nat) : List Leaf := ls.getD i []
theorem stkAt_get {ls : List (List Leaf)} {i : Nat} (h : i < ls.length) : ls[i]? = some (stkAt ls i) := by simp [stkAt, List.getD_eq_getElem?_getD, h]
theorem stkAt_fine {ls : List (List Leaf)} (hf : FineP ls) (i : Nat) : Fine (stkAt ls i) ∧ (stkAt ls i).length ≤ 400000 := by
 by_cases h : i < ls.length
 ·exact hf _ (List.mem_of_getElem? (stkAt_get h))
 ·have : stkAt ls i = [] := by simp [stkAt, List.getD_eq_getElem?_getD, List.getElem?_eq_none (Nat.le_of_not_lt h)]
  rw [this]; exact ⟨fun x hx => by simp at hx, by simp⟩
theorem cell_lt {rows cols r c : Nat} (hr : r < rows) (hc : c < cols) : r * cols + c < rows * cols := by
 have : (r + 1) * cols ≤ rows * cols := Nat.mul_le_mul_right _ hr
 rw [Nat.succ_mul] at this; omega
def overG (cols rows : Nat) (ls : List (List Leaf)) : List (List Leaf) := grid cols rows fun c r => (stkAt ls (r * cols + (cols - 1 - c))).reverse.map (flip false)
def roundG (cols rows : Nat) (ls : List (List Leaf)) : List (List Leaf) := grid cols rows fun c r => (stkAt ls ((rows - 1 - r) * cols + (cols - 1 - c))).map rnd1
theorem over_s (b : Bool) (ls : List (List Leaf)) (hf : FineP ls) (cols rows : Nat) (hc : cols ≤ 1000) (hr : rows ≤ 1000) (hn : ls.length = rows * cols) :
  Ctr Tryz.prog 94 [.agg [(.v (.int .i64 cols)), (.v (.int .i64 rows)), .sl b 1 (ls.map eK)]] (fun rr => rr = ⟨.agg [(.v (.int .i64 cols)), (.v (.int .i64 rows)), .sl true 1 ((overG cols rows ls).map eK)], []⟩) := by
 refine Ctr.of (rs := [.cell 2 143]) Tok true Tryz.func94 rfl rfl rfl rfl (by simp [ofDL]) (fun w0 kp => ?_)
 simp only [↓sx0, sxE, encs, sevalprocAttr]
 refine CallI.fn (moved_s 112 [.pt false [.v (.int .i64 cols), .v (.int .i64 rows), .sl b 1 (ls.map eK)]] (by intro; rfl) (by intro β γ; simp [leL, leV]) (by intro rw bx; simp [argOk, lendA, lendO, argO, ofD, leV]) cols rows (fun c r => (stkAt ls (r * cols + (cols - 1 - c))).reverse.map (flip false)) (fun c r h1 h2 => over1_s b false cols rows c r ls _ (stkAt_get (by rw [hn]; exact cell_lt h2 (by omega))) (by omega) hc h1 (stkAt_fine hf _).1 (by have := (stkAt_fine hf (r * cols + (cols - 1 - c))).2; omega)) hc hr) (by simp only [sx3, encs, sxR, sevalprocAttr] <;> (try simp) <;> (try rfl)) ?_
 simp only [↓sx0, sxE, encs, sevalprocAttr]
 refine EndW.fn ?_ ?_ <;> simp only [sx4, encs, kpLL_map, sxR, sevalprocAttr] <;> (try simp [overG]) <;> (try omega)
theorem round_s (b : Bool) (ls : List (List Leaf)) (hf : FineP ls) (cols rows : Nat) (hc : cols ≤ 1000) (hr : rows ≤ 1000) (hn : ls.length = rows * cols) :
  Ctr Tryz.prog 95 [.agg [(.v (.int .i64 cols)), (.v (.int .i64 rows)), .sl b 1 (ls.map eK)]] (fun rr => rr = ⟨.agg [(.v (.int .i64 cols)), (.v (.int .i64 rows)), .sl true 1 ((roundG cols rows ls).map eK)], []⟩) := by
 refine Ctr.of (rs := [.cell 2 143]) Tok true Tryz.func95 rfl rfl rfl rfl (by simp [ofDL]) (fun w0 kp => ?_)
 simp only [↓sx0, sxE, encs, sevalprocAttr]
 refine CallI.fn (moved_s 115 [.pt false [.v (.int .i64 cols), .v (.int .i64 rows), .sl b 1 (ls.map eK)]] (by intro; rfl) (by intro β γ; simp [leL, leV]) (by intro rw bx; simp [argOk, lendA, lendO, argO, ofD, leV]) cols rows (fun c r => (stkAt ls ((rows - 1 - r) * cols + (cols - 1 - c))).map rnd1) (fun c r h1 h2 => round1_s b false cols rows c r ls _ (stkAt_get (by rw [hn]; exact cell_lt (by omega) (by omega))) (by omega) hc h1 h2 (stkAt_fine hf _).1 (by have := (stkAt_fine hf ((rows - 1 - r) * cols + (cols - 1 - c))).2; omega)) hc hr) (by simp only [sx3, encs, sxR, sevalprocAttr] <;> (try simp) <;> (try rfl)) ?_
 simp only [↓sx0, sxE, encs, sevalprocAttr]
 refine EndW.fn ?_ ?_ <;> simp only [sx4, encs, kpLL_map, sxR, sevalprocAttr] <;> (try simp [roundG]) <;> (try omega)
def getI (back rows : Bool) (side cols along across : Int) : Int :=
 if rows then (if back then side - 1 - along else along) * cols + across else across * cols + (if back then side - 1 - along else along)
/-- what the closures of laid know. -/
def capG (b back rows : Bool) (side cols rws : Int) (ls : List (List Leaf)) : List D :=
 [.pt false [.v (.bool back)], .pt false [.v (.int .i64 side)], .pt false [.v (.bool rows)], .pt false [.v (.int .i64 cols), .v (.int .i64 rws), .sl b 1 (ls.map eK)]]
theorem get_s (b back rows : Bool) (side cols rws along across : Int) (ls : List (List Leaf)) (n : Nat) (l : List Leaf) (h : ls[n]? = some l) (hn : getI back rows side cols along across = n) (h1 : 0 ≤ cols) (hc : cols ≤ 1000) (hsd : side ≤ 1000) (h2 : 0 ≤ along) (hal : along < side) (h3 : 0 ≤ across) (hac : across ≤ 1000) :
  Ctr Tryz.prog 117 ([(.v (.int .i64 along)), (.v (.int .i64 across))] ++ ofDL (capG b back rows side cols rws ls)) (fun rr => rr = ⟨.sl true 4 (l.map eL), []⟩) := by
 unfold capG
 unfold getI at hn
 cases back <;> cases rows <;> simp only [Bool.false_eq_true, if_false, if_true] at hn
 ·refine Ctr.of (rs := [.tmp 8]) Tok true Tryz.func117 rfl rfl rfl rfl (by simp [ofDL]) (fun w0 kp => ?_)
  simp only [↓sx0, sxE, encs, sevalprocAttr]
  refine CallI.fn (stack_s b cols rws along across ls n l h (by omega) (by omega) (by omega) (by omega) (by omega) (by omega) (by omega)) (by simp only [sx3, encs, sxR, sevalprocAttr] <;> (try simp) <;> (try rfl)) ?_
  simp only [↓sx0, sxE, encs, sevalprocAttr]
  refine EndW.fn ?_ ?_ <;> simp only [sx4, encs, kpLL_map, sxR, sevalprocAttr] <;> (try simp [kpL, kpD]) <;> (try omega)
 ·refine Ctr.of (rs := [.tmp 8]) Tok true Tryz.func117 rfl rfl rfl rfl (by simp [ofDL]) (fun w0 kp => ?_)
  simp only [↓sx0, sxE, encs, sevalprocAttr]
  refine CallI.fn (stack_s b cols rws across along ls n l h (by omega) (by omega) (by omega) (by omega) (by omega) (by omega) (by omega)) (by simp only [sx3, encs, sxR, sevalprocAttr] <;> (try simp) <;> (try rfl)) ?_
  simp only [↓sx0, sxE, encs, sevalprocAttr]
  refine EndW.fn ?_ ?_ <;> simp only [sx4, encs, kpLL_map, sxR, sevalprocAttr] <;> (try simp [kpL, kpD]) <;> (try omega)
 ·refine Ctr.of (rs := [.tmp 8]) Tok true Tryz.func117 rfl rfl rfl rfl (by simp [ofDL]) (fun w0 kp => ?_)
  simp only [↓sx0, sxE, encs, sevalprocAttr]
  repeat ((with_reducible refine Vc.go ?_ fun _ => ?_); (focus (first | omega | (simp only [InK]; omega) | (simp [InK]; done) | (simp [InK]; omega))); simp only [↓sx0, sxE, encs, sevalprocAttr])
  refine CallI.fn (stack_s b cols rws (side - 1 - along) across ls n l h (by omega) (by omega) (by omega) (by omega) (by omega) (by omega) (by omega)) (by simp only [sx3, encs, sxR, sevalprocAttr] <;> (try simp) <;> (try rfl)) ?_
  simp only [↓sx0, sxE, encs, sevalprocAttr]
  refine EndW.fn ?_ ?_ <;> simp only [sx4, encs, kpLL_map, sxR, sevalprocAttr] <;> (try simp [kpL, kpD]) <;> (try omega)
 ·refine Ctr.of (rs := [.tmp 8]) Tok true Tryz.func117 rfl rfl rfl rfl (by simp [ofDL]) (fun w0 kp => ?_)
  simp only [↓sx0, sxE, encs, sevalprocAttr]
  repeat ((with_reducible refine Vc.go ?_ fun _ => ?_); (focus (first | omega | (simp only [InK]; omega) | (simp [InK]; done) | (simp [InK]; omega))); simp only [↓sx0, sxE, encs, sevalprocAttr])
  refine CallI.fn (stack_s b cols rws across (side - 1 - along) ls n l h (by omega) (by omega) (by omega) (by omega) (by omega) (by omega) (by omega)) (by simp only [sx3, encs, sxR, sevalprocAttr] <;> (try simp) <;> (try rfl)) ?_
  simp only [↓sx0, sxE, encs, sevalprocAttr]
  refine EndW.fn ?_ ?_ <;> simp only [sx4, encs, kpLL_map, sxR, sevalprocAttr] <;> (try simp [kpL, kpD]) <;> (try omega)
end Go.Proofs.YtgiegokdcmkfeaaGreatDoor
/-
 Chapter 6, walks: piles laid over, and folds.
-/
namespace Go.Proofs.YtgiegokdcmkfeaaGreatDoor
open Go Go.Vx
set_option maxRecDepth 20000
def capP (b back rows : Bool) (first side cols rws : Int) (ls : List (List Leaf)) : List D :=
 [.pt false [.v (.bool back)], .pt false [.v (.int .i64 first)], .pt false [.clo 117 (capG b back rows side cols rws ls)], .pt false [.v (.int .i64 side)], .pt false [.v (.bool rows)]]
theorem put_s (b back rows : Bool) (first side cols rws along across a : Int) (ls : List (List Leaf)) (hf : FineP ls) (n : Nat) (lb res : List Leaf) (ha : a = if back then first - 1 - along else along) (hlb : ls[n]? = some lb) (hn : getI back rows side cols a across = n)
  (h1 : 0 ≤ cols) (hc : cols ≤ 1000) (hsd : side ≤ 1000) (h2 : 0 ≤ along) (hal : along < first) (hfs : first ≤ side) (h3 : 0 ≤ across) (hac : across ≤ 1000)
  (hres : if 2 * first - 1 - a < side then ∃ (m : Nat) (lf : List Leaf), ls[m]? = some lf ∧ getI back rows side cols (2 * first - 1 - a) across = m ∧ res = lf.reverse.map (flip rows) ++ lb else res = lb) :
  Ctr Tryz.prog 118 ([(.v (.int .i64 along)), (.v (.int .i64 across))] ++ ofDL (capP b back rows first side cols rws ls)) (fun rr => rr = ⟨.row 0, [.own 79 4 (res.map eL)]⟩) := by
 obtain ⟨hflb, hllb⟩ := hf lb (List.mem_of_getElem? hlb)
 have get1 := get_s b back rows side cols rws a across ls n lb hlb hn h1 hc hsd (by rw [ha]; split <;> omega) (by rw [ha]; split <;> omega) h3 hac
 have hcl : ∀ l : List Leaf, kpLL (l.map eL) := fun l => by simp [kpLL_map, encs, kpL, kpD]
 have main : ∀ lf : List Leaf, (2 * first - 1 - a < side) → (∃ m : Nat, ls[m]? = some lf ∧ getI back rows side cols (2 * first - 1 - a) across = m) → res = lf.reverse.map (flip rows) ++ lb →
   Ctr Tryz.prog 118 ([(.v (.int .i64 along)), (.v (.int .i64 across))] ++ ofDL (capP b back rows first side cols rws ls)) (fun rr => rr = ⟨.row 0, [.own 79 4 (res.map eL)]⟩) := by
  rintro lf hlt ⟨m, hm, hmn⟩ rfl
  obtain ⟨hflf, hllf⟩ := hf lf (List.mem_of_getElem? hm)
  have get2 := get_s b back rows side cols rws (2 * first - 1 - a) across ls m lf hm hmn h1 hc hsd (by rw [ha]; split <;> omega) hlt h3 hac
  unfold capP capG at *
  cases back <;> simp only [Bool.false_eq_true, if_false, if_true] at ha <;> subst ha
  ·refine Ctr.of (rs := [.tmp 9]) Tok false Tryz.func118 rfl rfl rfl rfl (by simp [ofDL]) (fun w0 kp => ?_)
   simp only [↓sx0, sxE, encs, sevalprocAttr]
   refine CallI.fn (get1) (by simp only [sx3, encs, sxR, sevalprocAttr] <;> (try simp) <;> (try rfl)) ?_
   simp only [↓sx0, sxE, encs, sevalprocAttr]
   repeat ((with_reducible refine Vc.go ?_ fun _ => ?_); (focus (first | omega | (simp only [InK]; omega) | (simp [InK]; done) | (simp [InK]; omega))); simp only [↓sx0, sxE, encs, sevalprocAttr])
   refine BrW.yes (by omega) ?_
   simp only [↓sx0, sxE, encs, sevalprocAttr]
   refine DrawW.plan Tok mixed (.q 0 <| .q 1 <| .q 2 <| .q 4 <| .q 6 <| .e 3 [4] <| .e 5 [] <| .e 7 [] <| .e 8 [] <| .q 9 <| .done) (by kernel_rfl) (by kernel_rfl) ?_
   simp only [↓sx0, sxE, encs, sevalprocAttr]
   refine CallI.fn (get2) (by simp only [sx3, encs, sxR, sevalprocAttr] <;> (try simp) <;> (try rfl)) ?_
   simp only [↓sx0, sxE, encs, sevalprocAttr]
   refine CallI.ctr (turned_s true lf rows hflf (by omega)) (by simp only [sx3, encs, sxR, sevalprocAttr] <;> (try simp) <;> (try rfl)) ?_
   rintro _ rfl
   simp only [↓sx0, sxE, encs, sevalprocAttr]
   refine CallI.ctr (concat_s false [lf.reverse.map (flip rows), lb] (by simp) (by simp; omega)) (by simp only [sx3, encs, sxR, sevalprocAttr] <;> (try simp) <;> (try rfl)) ?_
   rintro _ rfl
   simp only [↓sx0, sxE, encs, sevalprocAttr]
   exact EndW.r [some 2] (by simp) (by simp only [sx4, sxF, encs, kpLL_map, sxR, sevalprocAttr] <;> simp [kpL, kpD]) (by simp only [sx4, sxF, encs, kpLL_map, sxR, sevalprocAttr] <;> simp [kpL, kpD]) (by simp only [sx4, sxF, encs, kpLL_map, sxR, sevalprocAttr] <;> simp [kpL, kpD]) (by simp only [sx4, sxF, encs, kpLL_map, sxR, sevalprocAttr] <;> simp [kpL, kpD])
  ·refine Ctr.of (rs := [.tmp 9]) Tok false Tryz.func118 rfl rfl rfl rfl (by simp [ofDL]) (fun w0 kp => ?_)
   simp only [↓sx0, sxE, encs, sevalprocAttr]
   repeat ((with_reducible refine Vc.go ?_ fun _ => ?_); (focus (first | omega | (simp only [InK]; omega) | (simp [InK]; done) | (simp [InK]; omega))); simp only [↓sx0, sxE, encs, sevalprocAttr])
   refine CallI.fn (get1) (by simp only [sx3, encs, sxR, sevalprocAttr] <;> (try simp) <;> (try rfl)) ?_
   simp only [↓sx0, sxE, encs, sevalprocAttr]
   repeat ((with_reducible refine Vc.go ?_ fun _ => ?_); (focus (first | omega | (simp only [InK]; omega) | (simp [InK]; done) | (simp [InK]; omega))); simp only [↓sx0, sxE, encs, sevalprocAttr])
   refine BrW.yes (by omega) ?_
   simp only [↓sx0, sxE, encs, sevalprocAttr]
   refine DrawW.plan Tok mixed (.q 0 <| .q 1 <| .q 2 <| .q 4 <| .q 6 <| .e 3 [4] <| .e 5 [] <| .e 7 [] <| .e 8 [] <| .q 9 <| .done) (by kernel_rfl) (by kernel_rfl) ?_
   simp only [↓sx0, sxE, encs, sevalprocAttr]
   refine CallI.fn (get2) (by simp only [sx3, encs, sxR, sevalprocAttr] <;> (try simp) <;> (try rfl)) ?_
   simp only [↓sx0, sxE, encs, sevalprocAttr]
   refine CallI.ctr (turned_s true lf rows hflf (by omega)) (by simp only [sx3, encs, sxR, sevalprocAttr] <;> (try simp) <;> (try rfl)) ?_
   rintro _ rfl
   simp only [↓sx0, sxE, encs, sevalprocAttr]
   refine CallI.ctr (concat_s false [lf.reverse.map (flip rows), lb] (by simp) (by simp; omega)) (by simp only [sx3, encs, sxR, sevalprocAttr] <;> (try simp) <;> (try rfl)) ?_
   rintro _ rfl
   simp only [↓sx0, sxE, encs, sevalprocAttr]
   exact EndW.r [some 2] (by simp) (by simp only [sx4, sxF, encs, kpLL_map, sxR, sevalprocAttr] <;> simp [kpL, kpD]) (by simp only [sx4, sxF, encs, kpLL_map, sxR, sevalprocAttr] <;> simp [kpL, kpD]) (by simp only [sx4, sxF, encs, kpLL_map, sxR, sevalprocAttr] <;> simp [kpL, kpD]) (by simp only [sx4, sxF, encs, kpLL_map, sxR, sevalprocAttr] <;> simp [kpL, kpD])
 by_cases hlt : 2 * first - 1 - a < side
 ·rw [if_pos hlt] at hres
  obtain ⟨m, lf, hm, hmn, hr⟩ := hres
  exact main lf hlt ⟨m, hm, hmn⟩ hr
 ·rw [if_neg hlt] at hres
  subst hres
  clear main
  unfold capP capG at *
  cases back <;> simp only [Bool.false_eq_true, if_false, if_true] at ha <;> subst ha
  ·refine Ctr.of (rs := [.tmp 9]) Tok false Tryz.func118 rfl rfl rfl rfl (by simp [ofDL]) (fun w0 kp => ?_)
   simp only [↓sx0, sxE, encs, sevalprocAttr]
   refine CallI.fn (get1) (by simp only [sx3, encs, sxR, sevalprocAttr] <;> (try simp) <;> (try rfl)) ?_
   simp only [↓sx0, sxE, encs, sevalprocAttr]
   repeat ((with_reducible refine Vc.go ?_ fun _ => ?_); (focus (first | omega | (simp only [InK]; omega) | (simp [InK]; done) | (simp [InK]; omega))); simp only [↓sx0, sxE, encs, sevalprocAttr])
   refine BrW.no (by omega) ?_
   simp only [↓sx0, sxE, encs, sevalprocAttr]
   refine CallI.ctr (clone_s true (res.map eL) (hcl _) (by simp; omega)) (by simp only [sx3, encs, sxR, sevalprocAttr] <;> (try simp) <;> (try rfl)) ?_
   rintro _ rfl
   simp only [↓sx0, sxE, encs, sevalprocAttr]
   exact EndW.r [some 0] (by simp) (by simp only [sx4, sxF, encs, kpLL_map, sxR, sevalprocAttr] <;> simp [kpL, kpD]) (by simp only [sx4, sxF, encs, kpLL_map, sxR, sevalprocAttr] <;> simp [kpL, kpD]) (by simp only [sx4, sxF, encs, kpLL_map, sxR, sevalprocAttr] <;> simp [kpL, kpD]) (by simp only [sx4, sxF, encs, kpLL_map, sxR, sevalprocAttr] <;> simp [kpL, kpD])
  ·refine Ctr.of (rs := [.tmp 9]) Tok false Tryz.func118 rfl rfl rfl rfl (by simp [ofDL]) (fun w0 kp => ?_)
   simp only [↓sx0, sxE, encs, sevalprocAttr]
   repeat ((with_reducible refine Vc.go ?_ fun _ => ?_); (focus (first | omega | (simp only [InK]; omega) | (simp [InK]; done) | (simp [InK]; omega))); simp only [↓sx0, sxE, encs, sevalprocAttr])
   refine CallI.fn (get1) (by simp only [sx3, encs, sxR, sevalprocAttr] <;> (try simp) <;> (try rfl)) ?_
   simp only [↓sx0, sxE, encs, sevalprocAttr]
   repeat ((with_reducible refine Vc.go ?_ fun _ => ?_); (focus (first | omega | (simp only [InK]; omega) | (simp [InK]; done) | (simp [InK]; omega))); simp only [↓sx0, sxE, encs, sevalprocAttr])
   refine BrW.no (by omega) ?_
   simp only [↓sx0, sxE, encs, sevalprocAttr]
   refine CallI.ctr (clone_s true (res.map eL) (hcl _) (by simp; omega)) (by simp only [sx3, encs, sxR, sevalprocAttr] <;> (try simp) <;> (try rfl)) ?_
   rintro _ rfl
   simp only [↓sx0, sxE, encs, sevalprocAttr]
   exact EndW.r [some 0] (by simp) (by simp only [sx4, sxF, encs, kpLL_map, sxR, sevalprocAttr] <;> simp [kpL, kpD]) (by simp only [sx4, sxF, encs, kpLL_map, sxR, sevalprocAttr] <;> simp [kpL, kpD]) (by simp only [sx4, sxF, encs, kpLL_map, sxR, sevalprocAttr] <;> simp [kpL, kpD]) (by simp only [sx4, sxF, encs, kpLL_map, sxR, sevalprocAttr] <;> simp [kpL, kpD])
/-- the stack that lies at a place of a pile that is laid over. -/
def getAt (back rows : Bool) (side cols along across : Nat) : Nat :=
 if rows then (if back then side - 1 - along else along) * cols + across else across * cols + (if back then side - 1 - along else along)
def laidAt (cols rws first : Nat) (rows back : Bool) (ls : List (List Leaf)) (along across : Nat) : List Leaf :=
 let side := if rows then rws else cols
 let a := if back then first - 1 - along else along
 let lb := stkAt ls (getAt back rows side cols a across)
 if 2 * first - 1 - a < side then (stkAt ls (getAt back rows side cols (2 * first - 1 - a) across)).reverse.map (flip rows) ++ lb else lb
def laidG (cols rws first : Nat) (rows back : Bool) (ls : List (List Leaf)) : List (List Leaf) :=
 if rows then grid cols first fun c r => laidAt cols rws first rows back ls r c else grid first rws fun c r => laidAt cols rws first rows back ls c r
theorem getI_at {back rows : Bool} {side cols along across : Nat} (h : along < side) : getI back rows side cols along across = getAt back rows side cols along across := by
 unfold getI getAt
 have : ((side - 1 - along : Nat) : Int) = (side : Int) - 1 - along := by omega
 cases back <;> cases rows <;> simp [Int.natCast_add, Int.natCast_mul, this]
theorem get_lt {back rows : Bool} {cols rws a across : Nat} (ha : a < if rows then rws else cols) (hx : across < if rows then cols else rws) : getAt back rows (if rows then rws else cols) cols a across < rws * cols := by
 unfold getAt
 cases rows
 ·simp only [Bool.false_eq_true, if_false] at ha hx ⊢
  exact cell_lt hx (by split <;> omega)
 ·simp only [if_true] at ha hx ⊢
  exact cell_lt (by split <;> omega) hx
theorem put_at (b back rows : Bool) (cols rws first : Nat) (ls : List (List Leaf)) (hf : FineP ls) (hc : cols ≤ 1000) (hr : rws ≤ 1000) (hn : ls.length = rws * cols) (h1 : first ≤ if rows then rws else cols) (along across : Nat) (hal : along < first) (hac : across < if rows then cols else rws) :
  Ctr Tryz.prog 118 ([(.v (.int .i64 along)), (.v (.int .i64 across))] ++ ofDL (capP b back rows first (if rows then rws else cols : Nat) cols rws ls)) (fun rr => rr = ⟨.row 0, [.own 79 4 ((laidAt cols rws first rows back ls along across).map eL)]⟩) := by
 have hsd : (if rows then rws else cols) ≤ 1000 := by split <;> omega
 have hac2 : across ≤ 1000 := by
  cases rows
  ·simp only [Bool.false_eq_true, if_false] at hac; omega
  ·simp only [if_true] at hac; omega
 have ha : (if back then first - 1 - along else along) < if rows then rws else cols := by
  cases back <;> simp only [if_true, Bool.false_eq_true, if_false] <;> omega
 have haf : (if back then first - 1 - along else along) < first := by
  cases back <;> simp only [if_true, Bool.false_eq_true, if_false] <;> omega
 have hai : (((if back then first - 1 - along else along : Nat)) : Int) = if back then (first : Int) - 1 - along else along := by
  cases back <;> simp only [if_true, Bool.false_eq_true, if_false]; omega
 have hlen : ls[getAt back rows (if rows then rws else cols) cols (if back then first - 1 - along else along) across]? = some _ := stkAt_get (by rw [hn]; exact get_lt ha hac)
 refine put_s b back rows first (if rows then rws else cols : Nat) cols rws along across _ ls hf _ _ _ hai hlen (getI_at ha) (by omega) (by omega) (by omega) (by omega) (by omega) (by omega) (by omega) (by omega) ?_
 unfold laidAt
 simp only []
 generalize (if back then first - 1 - along else along) = a at *
 by_cases hlt : 2 * first - 1 - a < if rows then rws else cols
 ·rw [if_pos hlt, if_pos (by omega)]
  refine ⟨_, _, stkAt_get (by rw [hn]; exact get_lt hlt hac), ?_, rfl⟩
  rw [← getI_at hlt]
  congr 1; omega
 ·rw [if_neg hlt, if_neg (by omega)]
end Go.Proofs.YtgiegokdcmkfeaaGreatDoor
/-
 Chapter 6, walks: sheets.
-/
namespace Go.Proofs.YtgiegokdcmkfeaaGreatDoor
open Go Go.Vx
set_option maxRecDepth 20000
theorem within_s (n lo hi : Int) : Ctr Tryz.prog 45 [(.v (.int .i64 n)), (.v (.int .i64 lo)), (.v (.int .i64 hi))] (fun rr => rr = ⟨(.v (.bool (decide (lo ≤ n ∧ n ≤ hi)))), []⟩) := by
 refine Ctr.of (rs := [.tmp 6]) Tok true Tryz.func45 rfl rfl rfl rfl (by simp [ofDL]) (fun w0 kp => ?_)
 simp only [↓sx0, sxE, encs, sevalprocAttr]
 refine BrW.dec (fun h => ?_) (fun h => ?_)
 ·simp only [↓sx0, sxE, encs, sevalprocAttr]
  refine EndW.fn ?_ ?_ <;> simp only [sx4, encs, kpLL_map, sxR, sevalprocAttr] <;> (try simp [h]) <;> (try omega)
 ·simp only [↓sx0, sxE, encs, sevalprocAttr]
  refine EndW.fn ?_ ?_ <;> simp only [sx4, encs, kpLL_map, sxR, sevalprocAttr] <;> (try simp [h]) <;> (try omega)
def sheetErr (c r : Int) : Int := if 1 ≤ c ∧ c ≤ 8 then (if 1 ≤ r ∧ r ≤ 8 then (if 32 < c * r then 8 else 0) else 2) else 2
theorem checkSheet_s (c r : Int) : Ctr Tryz.prog 46 [(.v (.int .i64 c)), (.v (.int .i64 r))] (fun rr => rr = ⟨(.v (.int .i64 (sheetErr c r))), []⟩) := by
 refine Ctr.of (rs := [.tmp 4]) Tok true Tryz.func46 rfl rfl rfl rfl (by simp [ofDL]) (fun w0 kp => ?_)
 simp only [↓sx0, sxE, encs, sevalprocAttr]
 refine CallI.fn (within_s c 1 8) (by simp only [sx3, encs, sxR, sevalprocAttr] <;> (try simp) <;> (try rfl)) ?_
 simp only [↓sx0, sxE, encs, sevalprocAttr]
 refine BrW.dec (fun h => ?_) (fun h => ?_)
 ·simp only [↓sx0, sxE, encs, sevalprocAttr]
  refine CallI.fn (within_s r 1 8) (by simp only [sx3, encs, sxR, sevalprocAttr] <;> (try simp) <;> (try rfl)) ?_
  simp only [↓sx0, sxE, encs, sevalprocAttr]
  refine BrW.dec (fun h' => ?_) (fun h' => ?_)
  ·have b1 : c * r ≤ 8 * 8 := Int.mul_le_mul h.2 h'.2 (by omega) (by omega)
   have b2 : 0 ≤ c * r := Int.mul_nonneg (by omega) (by omega)
   simp only [↓sx0, sxE, encs, sevalprocAttr]
   (with_reducible refine Vc.go ?_ fun _ => ?_); focus (first | omega | (simp only [InK]; omega) | (simp [InK]; done) | (simp [InK]; omega))
   simp only [↓sx0, sxE, encs, sevalprocAttr]
   refine BrW.dec (fun g => ?_) (fun g => ?_)
   ·simp only [↓sx0, sxE, encs, sevalprocAttr]
    refine EndW.fn ?_ ?_ <;> simp only [sx4, encs, kpLL_map, sxR, sevalprocAttr] <;> (try simp [sheetErr, h, h', g]) <;> (try omega)
   ·simp only [↓sx0, sxE, encs, sevalprocAttr]
    refine EndW.fn ?_ ?_ <;> simp only [sx4, encs, kpLL_map, sxR, sevalprocAttr] <;> (try simp [sheetErr, h, h', g]) <;> (try omega)
  ·simp only [↓sx0, sxE, encs, sevalprocAttr]
   refine EndW.fn ?_ ?_ <;> simp only [sx4, encs, kpLL_map, sxR, sevalprocAttr] <;> (try simp [sheetErr, h, h']) <;> (try omega)
 ·simp only [↓sx0, sxE, encs, sevalprocAttr]
  refine EndW.fn ?_ ?_ <;> simp only [sx4, encs, kpLL_map, sxR, sevalprocAttr] <;> (try simp [sheetErr, h]) <;> (try omega)
def oneL (c r : Nat) : List Leaf := [⟨c, r, 0, 0⟩]
def flatG (cols rows : Nat) : List (List Leaf) := grid cols rows oneL
theorem flat_s (cols rows : Nat) (hc : cols ≤ 1000) (hr : rows ≤ 1000) : Ctr Tryz.prog 67 [(.v (.int .i64 cols)), (.v (.int .i64 rows))] (fun rr => rr = ⟨.agg [(.v (.int .i64 cols)), (.v (.int .i64 rows)), .sl true 1 ((flatG cols rows).map eK)], []⟩) := by
 have hsz : rows * cols ≤ 1000 * 1000 := Nat.mul_le_mul hr hc
 refine Ctr.of (rs := [.cell 4 143]) Tok true Tryz.func67 rfl rfl rfl rfl (by simp [ofDL]) (fun w0 kp => ?_)
 simp only [↓sx0, sxE, encs, sevalprocAttr]
 refine LoopW.comp [0, 4, 5, 11, 12] (by simp only [sx2, encs, sxR, sevalprocAttr] <;> (try simp) <;> (try omega)) ?_
 simp only [sx2, sxR, sevalprocAttr]
 refine LoopW.up Tok (fun r : Nat => [(12, (.v (.int .i64 r)))]) (fun r => [(1, [(.v (.int .i64 cols)), (.v (.int .i64 rows)), .row 0])]) (fun r => []) (fun r => [.own 75 1 ((grid cols r oneL).map eK)]) (fun r => r ≤ rows) (fun r => rows - r) (0) (by simp only [sx2, encs, sxR, sevalprocAttr] <;> (try simp) <;> (try omega)) ?_ ?_
 ·omega
 rintro r hr1
 simp only [↓sx0, sxE, encs, sevalprocAttr]
 refine BrW.dec (fun hlt => ?_) (fun hlt => ?_)
 ·simp only [↓sx0, sxE, encs, sevalprocAttr]
  have hr2 : r < rows := by omega
  refine LoopW.comp [0, 4, 5, 6, 11, 12, 15, 16] (by simp only [sx2, encs, sxR, sevalprocAttr] <;> (try simp) <;> (try omega)) ?_
  simp only [sx2, sxR, sevalprocAttr]
  refine LoopW.up Tok (fun k : Nat => [(16, (.v (.int .i64 k)))]) (fun k => []) (fun k => [(0, ((grid cols r oneL) ++ gridRow k oneL r).map eK)]) (fun k => []) (fun k => k ≤ cols) (fun k => cols - k) (0) (by simp only [sx2, encs, sxR, sevalprocAttr] <;> (try simp) <;> (try omega)) ?_ ?_
  ·omega
  rintro k hk1
  have hlen : r * cols + k ≤ 1000000 := by
   have h1 : (r + 1) * cols ≤ rows * cols := Nat.mul_le_mul_right _ hr2
   rw [Nat.succ_mul] at h1
   omega
  simp only [↓sx0, sxE, encs, sevalprocAttr]
  refine BrW.dec (fun hlt2 => ?_) (fun hlt2 => ?_)
  ·simp only [↓sx0, sxE, encs, sevalprocAttr]
   (with_reducible refine Vc.go ?_ fun _ => ?_); focus (first | omega | (simp only [InK]; omega) | (simp [grid_length, gridRow_length, InK]; done) | (simp [grid_length, gridRow_length, InK]; omega))
   simp only [↓sx0, sxE, encs, sevalprocAttr]
   (with_reducible refine Vc.go ?_ fun _ => ?_); focus (first | omega | (simp only [InK]; omega) | (simp [InK]; done) | (simp [InK]; omega))
   simp only [↓sx0, sxE, encs, sevalprocAttr]
   refine ⟨k + 1, StLe.auto (by simp only [sx2, encs, sxR, sevalprocAttr] <;> (try simp [gridRow_succ, oneL, encs]) <;> (try omega)), ?_, ?_⟩
   ·omega
   ·omega
  ·simp only [↓sx0, sxE, encs, sevalprocAttr]
   have : k = cols := by omega
   subst this
   (with_reducible refine Vc.go ?_ fun _ => ?_); focus (first | omega | (simp only [InK]; omega) | (simp [InK]; done) | (simp [InK]; omega))
   simp only [↓sx0, sxE, encs, sevalprocAttr]
   refine ⟨r + 1, StLe.auto (by simp only [sx2, encs, sxR, sevalprocAttr] <;> (try simp [grid_succ, encs]) <;> (try omega)), ?_, ?_⟩
   ·omega
   ·omega
 ·simp only [↓sx0, sxE, encs, sevalprocAttr]
  have : r = rows := by omega
  subst this
  refine EndW.fn ?_ ?_ <;> simp only [sx4, encs, kpLL_map, sxR, sevalprocAttr] <;> (try simp [flatG]) <;> (try omega)
end Go.Proofs.YtgiegokdcmkfeaaGreatDoor
