/-
 Chapter 6, walks: the law of schemes of folds.
-/
import Derived.Test.YtgiegokdcmkfeaaGreatDoorVP6Folded
import Derived.Test.YtgiegokdcmkfeaaGreatDoorVGC
import Derived.Test.YtgiegokdcmkfeaaGreatDoorVGA
import Derived.BigCall
import Derived.Test.YtgiegokdcmkfeaaGreatDoorVItB
import Derived.Test.YtgiegokdcmkfeaaGreatDoorVBld
import Derived.Test.YtgiegokdcmkfeaaGreatDoorVGE
import Derived.Test.YtgiegokdcmkfeaaGreatDoorVGlobI
set_option linter.unusedSimpArgs false
set_option linter.unusedVariables false
namespace Go.Proofs.YtgiegokdcmkfeaaGreatDoor
open Go Go.Vx
set_option maxRecDepth 20000
theorem inOrder_s (b : Bool) (l : List Page) (hl : l.length ≤ 1000000) (h : ∀ (i : Nat) (hi : i < l.length), l[i] = ⟨(i : Int) + 1, 0⟩) : Ctr Tryz.prog 19 [.sl b 2 (l.map eP)] (fun rr => rr = ⟨(.v (.bool (true))), []⟩) := by
 refine Ctr.of (rs := [.tmp 2]) Tok true Tryz.func19 rfl rfl rfl rfl (by simp [ofDL]) (fun w0 kp => ?_)
 simp only [↓sx0, sxE, encs, sevalprocAttr]
 refine LoopW.comp [0, 3] (by simp only [sx2, encs, sxR, sevalprocAttr] <;> (try simp) <;> (try omega)) ?_
 simp only [sx2, sxR, sevalprocAttr]
 refine LoopW.up Tok (fun k : Nat => [(3, (.v (.int .i64 k)))]) (fun k => []) (fun k => []) (fun k => []) (fun k => k ≤ l.length) (fun k => l.length - k) (0) (by simp only [sx2, encs, sxR, sevalprocAttr] <;> (try simp) <;> (try omega)) ?_ ?_
 ·omega
 rintro k hk
 simp only [↓sx0, sxE, encs, sevalprocAttr]
 refine BrW.dec (fun hlt => ?_) (fun hlt => ?_)
 ·have hk2 : k < l.length := by omega
  have hg := h k hk2
  simp only [↓sx0, sxE, encs, sevalprocAttr]
  refine IxW.nat hk2 ?_
  rw [hg]
  simp only [↓sx0, sxE, encs, sevalprocAttr]
  repeat ((with_reducible refine Vc.go ?_ fun _ => ?_); (focus (first | omega | (simp only [InK]; omega) | (simp [InK]; done) | (simp [InK]; omega))); simp only [↓sx0, sxE, encs, sevalprocAttr])
  refine BrW.ff (by simp) ?_
  simp only [↓sx0, sxE, encs, sevalprocAttr]
  repeat ((with_reducible refine Vc.go ?_ fun _ => ?_); (focus (first | omega | (simp only [InK]; omega) | (simp [InK]; done) | (simp [InK]; omega))); simp only [↓sx0, sxE, encs, sevalprocAttr])
  refine ⟨k + 1, StLe.auto (by simp only [sx2, encs, sxR, sevalprocAttr] <;> (try simp) <;> (try omega)), ?_, ?_⟩
  ·omega
  ·omega
 ·simp only [↓sx0, sxE, encs, sevalprocAttr]
  refine EndW.fn ?_ ?_ <;> simp only [sx4, encs, kpLL_map, sxR, sevalprocAttr] <;> (try simp) <;> (try omega)
end Go.Proofs.YtgiegokdcmkfeaaGreatDoor
/-
 Chapter 6, walks: the laws of reading.
-/
namespace Go.Proofs.YtgiegokdcmkfeaaGreatDoor
open Go Go.Vx
set_option maxRecDepth 20000
theorem sch_turns {c r : Int} {l : List Cell} (h : (schS c r l).2 = 0) : ∀ x ∈ l, TnOk x := fun x hx => by
 have hk : ∀ {n : Nat} {l : List Cell} {seen : List Int} {i : Nat}, (schK n seen i l).2 = 0 → ∀ x ∈ l, clOk n x = true := by
  intro n l
  induction l with
  | nil => intro _ _ _ x hx; simp at hx
  | cons y l ih =>
   intro seen i h x hx
   unfold schK at h
   by_cases h1 : clOk n y = false
   ·rw [if_pos h1] at h; simp at h
   ·rw [if_neg h1] at h
    by_cases h2 : y.front ∈ seen ∨ y.back ∈ seen ∨ y.front = y.back
    ·rw [if_pos h2] at h; simp at h
    ·rw [if_neg h2] at h
     rcases List.mem_cons.1 hx with rfl | hx
     ·simpa using h1
     ·exact ih h x hx
 obtain ⟨cn, rn, rfl, rfl, h1, h2, h3, h4, h5, h6⟩ := sch_fine h
 have e : (l.length : Int) = (cn : Int) * rn := by rw [h5]; push_cast; exact Int.mul_comm _ _
 unfold schS at h
 rw [if_neg (by simp [h6]), if_neg (by simp [e])] at h
 have := clOk_iff.1 (hk h x hx)
 exact ⟨this.2.2.1, this.2.2.2⟩
/-- pages that a pile reads, and the error. -/
def readsS (c r : Int) (l : List Cell) (f : List Fold) : List Page × Int :=
 if (schS c r l).2 ≠ 0 then ([], (schS c r l).2) else if (foldedS c r f).2.2 ≠ 0 then ([], (foldedS c r f).2.2) else ((foldedS c r f).1.flatMap (rdP c.toNat l), 0)
theorem reads_s (b b' : Bool) (c r : Int) (l : List Cell) (f : List Fold) (hf : Cnt f) : Ctr Tryz.prog 18 [.agg [(.v (.int .i64 c)), (.v (.int .i64 r)), .sl b 4 (l.map eC)], .sl b' 2 (f.map eF)] (fun rr => rr = ⟨.tup [.sl true 2 ((readsS c r l f).1.map eP), (.v (.int .i64 ((readsS c r l f).2)))], []⟩) := by
 have hfl := folded_len c r f
 refine Ctr.of (rs := [.tmp 4, .tmp 5]) Tok true Tryz.func18 rfl rfl rfl rfl (by simp [ofDL]) (fun w0 kp => ?_)
 simp only [↓sx0, sxE, encs, sevalprocAttr]
 refine CallI.fn (check_s b c r l) (by simp only [sx3, encs, sxR, sevalprocAttr] <;> (try simp) <;> (try rfl)) ?_
 simp only [↓sx0, sxE, encs, sevalprocAttr]
 refine BrW.dec (fun he => ?_) (fun he => ?_)
 ·simp only [↓sx0, sxE, encs, sevalprocAttr]
  refine EndW.fn ?_ ?_ <;> simp only [sx4, encs, kpLL_map, sxR, sevalprocAttr] <;> (try simp [readsS, he]) <;> (try omega)
 ·have he0 : (schS c r l).2 = 0 := Decidable.not_not.1 he
  have htn := sch_turns he0
  obtain ⟨cn, rn, rfl, rfl, h1, h2, h3, h4, h5, -⟩ := sch_fine he0
  simp only [↓sx0, sxE, encs, sevalprocAttr]
  refine CallI.fn (folded_s b' cn rn f hf) (by simp only [sx3, encs, sxR, sevalprocAttr] <;> (try simp) <;> (try rfl)) ?_
  simp only [↓sx0, sxE, encs, sevalprocAttr]
  refine BrW.dec (fun hg => ?_) (fun hg => ?_)
  ·simp only [↓sx0, sxE, encs, sevalprocAttr]
   refine EndW.fn ?_ ?_ <;> simp only [sx4, encs, kpLL_map, sxR, sevalprocAttr] <;> (try simp [readsS, he0, hg]) <;> (try omega)
  ·have hg0 : (foldedS cn rn f).2.2 = 0 := Decidable.not_not.1 hg
   simp only [↓sx0, sxE, encs, sevalprocAttr]
   refine CallI.fn (read_s b true cn rn l (foldedS cn rn f).1 h2 h4 h5 (pile_ok hg0) htn hfl) (by simp only [sx3, encs, sxR, sevalprocAttr] <;> (try simp) <;> (try rfl)) ?_
   simp only [↓sx0, sxE, encs, sevalprocAttr]
   refine EndW.fn ?_ ?_ <;> simp only [sx4, encs, kpLL_map, sxR, sevalprocAttr] <;> (try simp [readsS, he0, hg0]) <;> (try omega)
end Go.Proofs.YtgiegokdcmkfeaaGreatDoor
/-
 The chapters' top: an example of chapter 6.
-/
namespace Go.Proofs.YtgiegokdcmkfeaaGreatDoor
open Go Go.Vx
set_option maxRecDepth 20000
theorem imposed_s : Ctr Tryz.prog 5 [] (fun rr => rr = ⟨(.v (.bool (true))), []⟩) := by
 have s1 : readsS 2 1 [⟨3, 0, 4, 0⟩, ⟨2, 0, 1, 0⟩] [⟨1, 1⟩] = ([⟨1, 0⟩, ⟨2, 0⟩, ⟨3, 0⟩, ⟨4, 0⟩], 0) := by decide
 have s2 : (foldedS 2 2 [⟨1, 1⟩]).2 = (1, 25) := by decide
 have c1 := reads_s false false 2 1 [⟨3, 0, 4, 0⟩, ⟨2, 0, 1, 0⟩] [⟨1, 1⟩] (by intro x hx; simp at hx; rcases hx with rfl | rfl <;> simp)
 have c2 := checkFolds_s true 2 2 [⟨1, 1⟩] (by intro x hx; simp at hx; rcases hx with rfl | rfl <;> simp)
 rw [s1] at c1
 simp only at c1
 rw [s2] at c2
 simp only at c2
 refine Ctr.of (rs := [.tmp 0]) Tok true Tryz.func5 rfl rfl rfl rfl (by simp [ofDL]) (fun w0 kp => ?_)
 simp only [↓sx0, sxE, encs, sevalprocAttr]
 refine CallI.fn (c1) (by simp only [sx3, encs, sxR, sevalprocAttr] <;> (try simp) <;> (try rfl)) ?_
 simp only [↓sx0, sxE, encs, sevalprocAttr]
 refine CallI.fn (quarto_s) (by simp only [sx3, encs, sxR, sevalprocAttr] <;> (try simp) <;> (try rfl)) ?_
 simp only [↓sx0, sxE, encs, sevalprocAttr]
 repeat ((with_reducible refine Vc.go ?_ fun _ => ?_); (focus (first | omega | (simp only [InK]; omega) | (simp [InK]; done) | (simp [InK]; omega))); simp only [↓sx0, sxE, encs, sevalprocAttr])
 refine CallI.fn (c2) (by simp only [sx3, encs, sxR, sevalprocAttr] <;> (try simp) <;> (try rfl)) ?_
 simp only [↓sx0, sxE, encs, sevalprocAttr]
 refine CallI.fn (inOrder_s true [⟨1, 0⟩, ⟨2, 0⟩, ⟨3, 0⟩, ⟨4, 0⟩] (by simp) (by decide)) (by simp only [sx3, encs, sxR, sevalprocAttr] <;> (try simp) <;> (try rfl)) ?_
 simp only [↓sx0, sxE, encs, sevalprocAttr]
 refine EndW.fn ?_ ?_ <;> simp only [sx4, encs, kpLL_map, sxR, sevalprocAttr] <;> (try simp) <;> (try omega)
end Go.Proofs.YtgiegokdcmkfeaaGreatDoor
/-
 Chapter 6: numbers of texts (the program).
-/
namespace Go.Proofs.YtgiegokdcmkfeaaGreatDoor
open Go Go.Vx Go.Shelf Go.RowKit Go.Sort
set_option maxHeartbeats 4000000 in
set_option maxRecDepth 100000 in
theorem number_raw (s : ByteArray) (d : Nat) (hlim : s.size ≤ 281474976710656) (hd : d ≤ 1000) (w : World) (hg : glob w) :
  Calls Tryz.prog 39 #[.string s, .int .i64 d] w fun e w' => e = .returned (.tuple #[.int .i64 (numP s.data.toList d).1, .bool (numP s.data.toList d).2]) ∧ Below w.heap.size w w' := by
 have mixed : Tryz.prog.follows Departure.mixedOrders = true := rfl
 obtain ⟨ev, he, hev⟩ := hg.2.1
 obtain ⟨er, hr, her⟩ := hg.2.2.1
 rcases h : Lib.atoiAll s.data.toList with v | _ | _
 ·obtain ⟨v0, v1⟩ := Lib.atoiAll_bounds h
  have hv : numP s.data.toList d = (v, decide (Lib.itoa v = s.data.toList ∧ (Lib.trimPrefix s.data.toList [45]).length ≤ d)) := by simp only [numP, h]
  rw [hv]
  simp only
  go_enter Tryz.func39, Tryz.ntmps39
  go_wp2_with (go_at_call 78; refine (Any.strconv_Atoi_ok laysAtoi s (by omega) v h _).mono ?_)
  rintro e W1 ⟨rfl, hw⟩
  have hb1 : Below w.heap.size w W1 := by
   rcases hw with rfl | ⟨t, rfl⟩
   ·exact Below.refl _ _
   ·exact Lib.bytesWorld_below _ _ _
  have hg1 := glob_ok w W1 hb1.size hb1.block hg
  go_wp2_with (go_at_call 32; refine (Any.strconv_Itoa laysItoa v v0 v1 _ ?_).mono ?_)
  ·exact hg1.1
  rintro e W2 ⟨rfl, k, os, rfl⟩
  have hb2 : Below w.heap.size w (grow (W1.drewN k) os) := hb1.trans ((grow_below W1 k os).mono hb1.size)
  by_cases hi : Lib.itoa v = s.data.toList
  ·have hs' : (⟨(Lib.itoa v).toArray⟩ : ByteArray) = s := by rw [hi]
   rw [hs']
   go_wp2_with (go_at_call 79; refine (Any.strings_TrimPrefix laysTrim s ⟨#[45]⟩ _).mono ?_)
   go_ret2
   exact ⟨by simp [hi], hb2⟩
  ·have hs' : ¬ (⟨(Lib.itoa v).toArray⟩ : ByteArray) = s := fun e => hi (by rw [← e])
   have hi' : ¬ Lib.itoa v = s.toList := fun e => hi (by rw [e, Lib.toList_data])
   go_wp2
   all_goals first
    | exact absurd (by assumption) hi'
    | (go_ret2; exact ⟨by simp [hi], hb2⟩)
 ·have hv : numP s.data.toList d = (0, false) := by simp only [numP, h]
  rw [hv]
  simp only
  go_enter Tryz.func39, Tryz.ntmps39
  go_wp2_with (go_at_call 78; refine (Any.strconv_Atoi_syntax laysAtoi s hlim h ev _ ?_ hev).mono ?_)
  ·exact he
  rintro e W1 ⟨N, rfl, -, -, hb⟩
  go_wp2
  go_ret2
  exact ⟨rfl, hb⟩
 ·have hv : numP s.data.toList d = (Lib.atoiSat s.data.toList, false) := by simp only [numP, h]
  rw [hv]
  simp only
  go_enter Tryz.func39, Tryz.ntmps39
  go_wp2_with (go_at_call 78; refine (Any.strconv_Atoi_range laysAtoi s hlim h er _ ?_ her).mono ?_)
  ·exact hr
  rintro e W1 ⟨N, rfl, -, -, hb⟩
  go_wp2
  go_ret2
  exact ⟨rfl, hb⟩
theorem number_s (s : ByteArray) (d : Nat) (hlim : s.size ≤ 281474976710656) (hd : d ≤ 1000) : CtrK glob Tryz.prog 39 [(.v (.string (s))), (.v (.int .i64 ((d : Int))))] (fun rr => rr = ⟨.tup [(.v (.int .i64 ((numP s.data.toList d).1))), (.v (.bool ((numP s.data.toList d).2)))], []⟩) :=
 CtrK.vals (xs := [.string s, .int .i64 (d : Int)]) Tryz.func39 rfl rfl (u := .tuple #[.int .i64 (numP s.data.toList d).1, .bool (numP s.data.toList d).2]) (fun g => by
  simp only [rel]
  exact ⟨_, rfl, rels_same [.int .i64 (numP s.data.toList d).1, .bool (numP s.data.toList d).2]⟩) fun w hg => number_raw s d hlim hd w hg
end Go.Proofs.YtgiegokdcmkfeaaGreatDoor
/-
 Chapter 6: numbers as texts, texts cut (the reference).
-/
namespace Go.Proofs.YtgiegokdcmkfeaaGreatDoor
open Go Go.Vx
set_option maxRecDepth 20000
def bs (l : List UInt8) : ByteArray := ⟨l.toArray⟩
theorem bs_add (a b : List UInt8) : bs a ++ bs b = bs (a ++ b) := by
 apply ByteArray.ext
 simp [bs, ByteArray.data_append]
theorem bs_size (a : List UInt8) : (bs a).size = a.length := by simp [bs, ByteArray.size]
theorem bs_data (s : ByteArray) : bs s.data.toList = s := by cases s; rfl
theorem bs_toList (a : List UInt8) : (bs a).data.toList = a := by simp [bs]
theorem bs_inj {a b : List UInt8} : bs a = bs b ↔ a = b := ⟨fun h => by rw [← bs_toList a, h, bs_toList], fun h => by rw [h]⟩
theorem CvR.go {e : TypeId} {els : List (List D)} {K : SV → St → Prop} {st : St} (h : 0 < els.length) (z : ByteArray) (hz : els = bytesD z) (hk : K (.v (.string z)) st) : CvR (some (.own e 1 els)) K st ⟨⟩ := ⟨rfl, h, z, hz, hk⟩
theorem dec_len : ∀ (k u : Nat), u < 10 ^ (k + 1) → (Lib.decDigits u).length ≤ k + 1
 | 0, u, h => by rw [Lib.decDigits, dif_pos (by omega)]; simp
 | k + 1, u, h => by
  rw [Lib.decDigits]
  split
  ·simp
  ·have h10 : 10 ^ (k + 1 + 1) = 10 ^ (k + 1) * 10 := Nat.pow_succ 10 (k + 1)
   have := dec_len k (u / 10) (by omega)
   simp only [List.length_append, List.length_singleton]
   omega
theorem bs_nil : bs [] = ⟨#[]⟩ := rfl
structure DS where
 m : Int
 suf : List UInt8
end Go.Proofs.YtgiegokdcmkfeaaGreatDoor
/-
 Chapter 6: numbers of texts, texts cut (the reference).
-/
namespace Go.Proofs.YtgiegokdcmkfeaaGreatDoor
open Go Go.Vx
set_option maxRecDepth 20000
theorem sIx_at {l : List UInt8} {j : Nat} {k : SV → Prop} (h : j < l.length) (hk : k (.v (.int .u8 ((l[j].toNat : Nat) : Int)))) : StrIx (bs l) (j : Int) k ⟨⟩ := StrIx.nat (s := bs l) (j := j) (by rw [bs_size]; exact h) hk
theorem sIx_0 {c : UInt8} {r : List UInt8} {k : SV → Prop} (hk : k (.v (.int .u8 ((c.toNat : Nat) : Int)))) : StrIx (bs (c :: r)) 0 k ⟨⟩ := sIx_at (l := c :: r) (j := 0) (by simp) hk
structure NS where
 a : List UInt8
 b : List UInt8
end Go.Proofs.YtgiegokdcmkfeaaGreatDoor
/-
 Chapter 6: texts cut (the reference).
-/
namespace Go.Proofs.YtgiegokdcmkfeaaGreatDoor
open Go Go.Vx
set_option maxRecDepth 20000
def eT (p : List UInt8) : List D := [(.v (.string (bs p)))]
theorem eT_def : ∀ p, eT p = [(.v (.string (bs p)))] := fun _ => rfl
theorem bs_ext (A p B : List UInt8) (i j : Nat) (hi : i = A.length) (hj : j = A.length + p.length) : (bs (A ++ p ++ B)).extract i j = bs p := by
 subst hi hj
 apply ByteArray.ext
 simp only [bs, ByteArray.data_extract]
 apply Array.toList_inj.1
 simp [List.extract_eq_take_drop, List.drop_append, List.take_append]
structure CS where
 A : List UInt8
 p : List UInt8
 b : List UInt8
 O : List (List UInt8)
end Go.Proofs.YtgiegokdcmkfeaaGreatDoor
/-
 Chapter 6, walks: lines of texts, and the builder.
-/
namespace Go.Proofs.YtgiegokdcmkfeaaGreatDoor
open Go Go.Vx Go.Shelf Go.RowKit
set_option maxRecDepth 20000
theorem idx_T (l : List UInt8) : Ctr Tryz.prog 75 [(.v (.string (bs l))), .v (.int .u8 10)] (fun rr => rr = ⟨(.v (.int .i64 (Lib.indexByte l 10))), []⟩) :=
 Ctr.vals (xs := [.string (bs l), .int .u8 10]) Tryz.func75 rfl rfl (u := .int .i64 (Lib.indexByte l 10)) (fun g => rfl) fun w => (Any.strings_IndexByte laysIdx (bs l) 10 w).mono fun e w' ⟨he, hw⟩ => ⟨by rw [he, bs_toList]; rfl, by rw [hw]; exact Below.refl _ _⟩
theorem wstr_s : WStr Tryz.prog 31 84 5 :=
 ⟨⟨_, Tryz.func31, rfl, rfl⟩, fun B b p v n l s w hp hb ho hn hl hB => wstr_raw (ρ := laysJoinR) { laysJoin with } xJoin B b p v n l s w hp hb ho hn hl hB⟩
theorem bstr_s : BStr Tryz.prog 35 84 5 :=
 ⟨⟨_, Tryz.func35, rfl, rfl⟩, fun B b p v l w hb ho hl => bstr_raw (ρ := laysJoinR) { laysJoin with } xJoin B b p v l w hb ho hl, fun B b p w hb => Any.Builder_String_nil (ρ := laysJoinR) { laysJoin with } xJoin B b p w hb⟩
/-- the lines of a text, each with its end. -/
def finL : List (List UInt8) → List (List UInt8)
 | [] => []
 | [l] => if l = [] then [] else [l]
 | p :: q :: ps => (p ++ [10]) :: finL (q :: ps)
def lnsL (s : List UInt8) : List (List UInt8) := finL (cutL 10 [] s)
theorem cutL_ne (c : UInt8) : ∀ (l acc : List UInt8), ∃ p ps, cutL c acc l = p :: ps
 | [], acc => ⟨_, _, rfl⟩
 | b :: l, acc => by
  rw [cutL]
  split
  ·exact ⟨_, _, rfl⟩
  ·exact cutL_ne c l _
theorem lns_hit {A B : List UInt8} (h : ¬ (10 : UInt8) ∈ A) : lnsL (A ++ 10 :: B) = (A ++ [10]) :: lnsL B := by
 obtain ⟨p, ps, hp⟩ := cutL_ne 10 B []
 rw [lnsL, cut_hit A [] B h, hp, lnsL, hp, List.nil_append, finL]
theorem lns_miss {r : List UInt8} (h : ¬ (10 : UInt8) ∈ r) (hr : r ≠ []) : lnsL r = [r] := by
 rw [lnsL, cut_miss r [] h, List.nil_append, finL, if_neg hr]
theorem lns_nil : lnsL [] = [] := rfl
def lnY (p : List UInt8) : List SV := [(.v (.string (bs p)))]
theorem lnY_def : ∀ p, lnY p = [(.v (.string (bs p)))] := fun _ => rfl
structure LS where
 O : List (List UInt8)
 r : List UInt8
set_option maxHeartbeats 4000000 in
theorem linesIt_s (s : List UInt8) (hs : s.length ≤ 1000000) : ItCtrB Tryz.prog 74 9 [(.v (.string (bs s)))] [.box 0 0] ((lnsL s).map lnY) := by
 have encs := And.intro encs lnY_def
 refine ItCtrB.of Tok Tryz.func74 rfl rfl rfl rfl (by decide) (fun w0 kp yd hok => ?_)
 simp only [↓sx0, sxE, encs, sevalprocAttr]
 skip
 refine LoopW.comp [0, 1] (by simp only [sx2, encs, sxR, sevalprocAttr] <;> (try simp) <;> (try omega)) ?_
 simp only [sx2, sxR, sevalprocAttr]
 refine LoopW.upG Tok (fun x : LS => []) (fun x => [(0, [(.v (.string (bs x.r)))])]) (fun x => []) (fun x => []) (fun x => x.O.map lnY) (fun x => lnsL s = x.O ++ lnsL x.r ∧ x.r.length ≤ s.length) (fun x => x.r.length) (⟨[], s⟩) (by simp only [sx2, encs, sxR, sevalprocAttr] <;> (try simp [lnY, encs]) <;> (try omega)) ?_ ?_
 ·exact ⟨rfl, Nat.le_refl _⟩
 rintro ⟨O, r⟩ ⟨hO, hr⟩
 simp only at hO hr
 simp only [↓sx0, sxE, encs, sevalprocAttr]
 have hsz := bs_size r
 refine BrW.dec (fun hlt => ?_) (fun hlt => ?_)
 ·simp only [↓sx0, sxE, encs, sevalprocAttr]
  have hlt : 0 < r.length := by omega
  refine CallI.fn (idx_T r) (by simp only [sx3, encs, sxR, sevalprocAttr] <;> (try simp) <;> (try rfl)) ?_
  simp only [↓sx0, sxE, encs, sevalprocAttr]
  by_cases hm : (10 : UInt8) ∈ r
  ·obtain ⟨A, B, rfl, hA⟩ := split_first hm
   rw [Go.Vx.byte_at A B hA]
   have hlen : (A ++ 10 :: B).length = A.length + 1 + B.length := by simp; omega
   refine BrW.yes (by omega) ?_
   simp only [↓sx0, sxE, encs, sevalprocAttr]
   have e1 : ∀ i j, i = 0 → j = A.length + 1 → (bs (A ++ 10 :: B)).extract i j = bs (A ++ [10]) := fun i j h1 h2 => by
    rw [show A ++ 10 :: B = [] ++ (A ++ [10]) ++ B by simp]; exact bs_ext [] (A ++ [10]) B i j h1 (by simp [h2])
   have e2 : ∀ i j, i = A.length + 1 → j = A.length + 1 + B.length → (bs (A ++ 10 :: B)).extract i j = bs B := fun i j h1 h2 => by
    rw [show A ++ 10 :: B = (A ++ [10]) ++ B ++ [] by simp]; exact bs_ext (A ++ [10]) B [] i j (by simp [h1]) (by simp [h2])
   refine DrawW.plan Tok mixed (.q 0 <| .q 1 <| .q 2 <| .q 3 <| .q 4 <| .q 5 <| .q 6 <| .q 7 <| .q 8 <| .e 9 [] <| .done) (by kernel_rfl) (by kernel_rfl) ?_
   simp only [↓sx0, sxE, encs, sevalprocAttr]
   repeat ((with_reducible refine Vc.go ?_ fun _ => ?_); (focus (first | omega | (simp only [InK]; omega) | (simp [InK]; done) | (simp [InK]; omega))); simp only [↓sx0, sxE, encs, sevalprocAttr])
   rw [e1 _ _ (by omega) (by omega), e2 _ _ (by omega) (by omega)]
   have hst := lns_hit (B := B) hA
   have hpre : O.map lnY ++ [[(.v (.string (bs (A ++ [10]))))]] <+: (lnsL s).map lnY := by
    rw [hO, hst]
    exact ⟨(lnsL B).map lnY, by simp [lnY]⟩
   have hadd : (O ++ [A ++ [10]]).map lnY = O.map lnY ++ [[(.v (.string (bs (A ++ [10]))))]] := by simp [lnY]
   refine YldI.of (ys := O.map lnY) hok rfl rfl (by simp only [sx2, sxA, encs, sxR, sevalprocAttr] <;> rfl) (by simp only [sx2, sxA, encs, sxR, sevalprocAttr] <;> rfl) rfl rfl rfl (hpre) ?_ ?_
   ·simp only [↓sx0, sxE, encs, sevalprocAttr]
    repeat ((with_reducible refine Vc.go ?_ fun _ => ?_); (focus (first | omega | (simp only [InK]; omega) | (simp [InK]; done) | (simp [InK]; omega))); simp only [↓sx0, sxE, encs, sevalprocAttr])
    refine ⟨⟨O ++ [A ++ [10]], B⟩, StLe.auto (by simp only [sx2, encs, sxR, sevalprocAttr] <;> (try simp [hadd, encs]) <;> (try omega)), ?_, ?_⟩
    ·exact ⟨by rw [hO, hst]; simp, by show B.length ≤ s.length; omega⟩
    ·simp only; omega
   ·simp only [↓sx0, sxE, encs, sevalprocAttr]
    intro h
    cases h
  ·rw [Go.Vx.byte_no r hm]
   refine BrW.no (by omega) ?_
   have hst := lns_miss hm (fun e => by rw [e] at hlt; simp at hlt)
   have hpre : O.map lnY ++ [[(.v (.string (bs r)))]] <+: (lnsL s).map lnY := by
    rw [hO, hst]
    exact ⟨[], by simp [lnY]⟩
   have hadd : (O ++ [r]).map lnY = O.map lnY ++ [[(.v (.string (bs r)))]] := by simp [lnY]
   simp only [↓sx0, sxE, encs, sevalprocAttr]
   repeat ((with_reducible refine Vc.go ?_ fun _ => ?_); (focus (first | omega | (simp only [InK]; omega) | (simp [InK]; done) | (simp [InK]; omega))); simp only [↓sx0, sxE, encs, sevalprocAttr])
   refine YldI.of (ys := O.map lnY) hok rfl rfl (by simp only [sx2, sxA, encs, sxR, sevalprocAttr] <;> rfl) (by simp only [sx2, sxA, encs, sxR, sevalprocAttr] <;> rfl) rfl rfl rfl (hpre) ?_ ?_
   ·simp only [↓sx0, sxE, encs, sevalprocAttr]
    repeat ((with_reducible refine Vc.go ?_ fun _ => ?_); (focus (first | omega | (simp only [InK]; omega) | (simp [InK]; done) | (simp [InK]; omega))); simp only [↓sx0, sxE, encs, sevalprocAttr])
    refine ⟨⟨O ++ [r], []⟩, StLe.auto (by simp only [sx2, encs, sxR, sevalprocAttr] <;> (try simp [hadd, bs_nil, encs]) <;> (try omega)), ?_, ?_⟩
    ·exact ⟨by rw [hO, hst, lns_nil]; simp, by simp⟩
    ·simp only [List.length_nil]; omega
   ·simp only [↓sx0, sxE, encs, sevalprocAttr]
    intro h
    cases h
 ·simp only [↓sx0, sxE, encs, sevalprocAttr]
  have hr0 : r = [] := List.length_eq_zero_iff.1 (by omega)
  subst hr0
  rw [lns_nil, List.append_nil] at hO
  rw [hO]
  intro _
  rfl
theorem b10 : (⟨#[10]⟩ : ByteArray) = bs [10] := rfl
theorem sz10 : (⟨#[10]⟩ : ByteArray).size = 1 := rfl
theorem hasSuf_yes (A : List UInt8) (hl : A.length ≤ 1000000) : Ctr Tryz.prog 101 [(.v (.string (bs (A ++ [10])))), (.v (.string (⟨#[10]⟩)))] (fun rr => rr = ⟨(.v (.bool (true))), []⟩) := by
 have hsz := bs_size (A ++ [10])
 have hs1 := sz10
 have hex : ∀ i j, i = A.length → j = A.length + 1 → (bs (A ++ [10])).extract i j = bs [10] := fun i j h1 h2 => by
  rw [show A ++ [10] = A ++ [10] ++ [] by simp]; exact bs_ext A [10] [] i j h1 (by simp [h2])
 simp only [List.length_append, List.length_singleton] at hsz
 refine Ctr.of (rs := [.tmp 4]) Tok true Tryz.func101 rfl rfl rfl rfl (by simp [ofDL]) (fun w0 kp => ?_)
 simp only [↓sx0, sxE, encs, sevalprocAttr]
 refine BrW.yes (by omega) ?_
 simp only [↓sx0, sxE, encs, sevalprocAttr]
 repeat ((with_reducible refine Vc.go ?_ fun _ => ?_); (focus (first | omega | (simp only [InK]; omega) | (simp [InK]; done) | (simp [InK]; omega))); simp only [↓sx0, sxE, encs, sevalprocAttr])
 rw [hex _ _ (by omega) (by omega)]
 refine EndW.fn ?_ ?_ <;> simp only [sx4, encs, kpLL_map, sxR, sevalprocAttr] <;> (try simp [b10]) <;> (try omega)
theorem hasSuf_no (r : List UInt8) (hr : r ≠ []) (hn : ¬ (10 : UInt8) ∈ r) (hl : r.length ≤ 1000000) : Ctr Tryz.prog 101 [(.v (.string (bs r))), (.v (.string (⟨#[10]⟩)))] (fun rr => rr = ⟨(.v (.bool (false))), []⟩) := by
 obtain ⟨A, x, rfl⟩ : ∃ A x, r = A ++ [x] := ⟨r.dropLast, r.getLast hr, (List.dropLast_concat_getLast hr).symm⟩
 have hsz := bs_size (A ++ [x])
 have hs1 := sz10
 have hx : ¬ x = 10 := fun e => hn (by simp [e])
 have hex : ∀ i j, i = A.length → j = A.length + 1 → (bs (A ++ [x])).extract i j = bs [x] := fun i j h1 h2 => by
  rw [show A ++ [x] = A ++ [x] ++ [] by simp]; exact bs_ext A [x] [] i j h1 (by simp [h2])
 simp only [List.length_append, List.length_singleton] at hsz hl
 have hne : ¬ bs [x] = ⟨#[10]⟩ := fun e => hx (by rw [b10, bs_inj] at e; simpa using e)
 refine Ctr.of (rs := [.tmp 4]) Tok true Tryz.func101 rfl rfl rfl rfl (by simp [ofDL]) (fun w0 kp => ?_)
 simp only [↓sx0, sxE, encs, sevalprocAttr]
 refine BrW.yes (by omega) ?_
 simp only [↓sx0, sxE, encs, sevalprocAttr]
 repeat ((with_reducible refine Vc.go ?_ fun _ => ?_); (focus (first | omega | (simp only [InK]; omega) | (simp [InK]; done) | (simp [InK]; omega))); simp only [↓sx0, sxE, encs, sevalprocAttr])
 rw [hex _ _ (by omega) (by omega)]
 refine EndW.fn ?_ ?_ <;> simp only [sx4, encs, kpLL_map, sxR, sevalprocAttr] <;> (try simp [hne]) <;> (try omega)
theorem cutSuf_yes (A : List UInt8) (hl : A.length ≤ 1000000) : Ctr Tryz.prog 37 [(.v (.string (bs (A ++ [10])))), (.v (.string (⟨#[10]⟩)))] (fun rr => rr = ⟨.tup [(.v (.string (bs A))), (.v (.bool (true)))], []⟩) := by
 have hsz := bs_size (A ++ [10])
 have hs1 := sz10
 have hex : ∀ i j, i = 0 → j = A.length → (bs (A ++ [10])).extract i j = bs A := fun i j h1 h2 => by
  rw [show A ++ [10] = [] ++ A ++ [10] by simp]; exact bs_ext [] A [10] i j h1 (by simp [h2])
 simp only [List.length_append, List.length_singleton] at hsz
 refine Ctr.of (rs := [.tmp 4, .tmp 5]) Tok true Tryz.func37 rfl rfl rfl rfl (by simp [ofDL]) (fun w0 kp => ?_)
 simp only [↓sx0, sxE, encs, sevalprocAttr]
 refine CallI.inl (rs := [.tmp 4, .tmp 5]) Tok Tryz.func76 rfl rfl rfl rfl (by simp) (fun ρ σ μ fr lp => ?_)
 simp only [↓sx0, sxE, encs, sevalprocAttr]
 refine CallI.fn (hasSuf_yes A hl) (by simp only [sx3, encs, sxR, sevalprocAttr] <;> (try simp) <;> (try rfl)) ?_
 simp only [↓sx0, sxE, encs, sevalprocAttr]
 repeat ((with_reducible refine Vc.go ?_ fun _ => ?_); (focus (first | omega | (simp only [InK]; omega) | (simp [InK]; done) | (simp [InK]; omega))); simp only [↓sx0, sxE, encs, sevalprocAttr])
 rw [hex _ _ (by omega) (by omega)]
 refine EndW.fn ?_ ?_ <;> simp only [sx4, encs, kpLL_map, sxR, sevalprocAttr] <;> (try simp) <;> (try omega)
theorem cutSuf_no (r : List UInt8) (hr : r ≠ []) (hn : ¬ (10 : UInt8) ∈ r) (hl : r.length ≤ 1000000) : Ctr Tryz.prog 37 [(.v (.string (bs r))), (.v (.string (⟨#[10]⟩)))] (fun rr => rr = ⟨.tup [(.v (.string (bs r))), (.v (.bool (false)))], []⟩) := by
 refine Ctr.of (rs := [.tmp 4, .tmp 5]) Tok true Tryz.func37 rfl rfl rfl rfl (by simp [ofDL]) (fun w0 kp => ?_)
 simp only [↓sx0, sxE, encs, sevalprocAttr]
 refine CallI.inl (rs := [.tmp 4, .tmp 5]) Tok Tryz.func76 rfl rfl rfl rfl (by simp) (fun ρ σ μ fr lp => ?_)
 simp only [↓sx0, sxE, encs, sevalprocAttr]
 refine CallI.fn (hasSuf_no r hr hn hl) (by simp only [sx3, encs, sxR, sevalprocAttr] <;> (try simp) <;> (try rfl)) ?_
 simp only [↓sx0, sxE, encs, sevalprocAttr]
 refine EndW.fn ?_ ?_ <;> simp only [sx4, encs, kpLL_map, sxR, sevalprocAttr] <;> (try simp) <;> (try omega)
end Go.Proofs.YtgiegokdcmkfeaaGreatDoor
/-
 Chapter 6, walks: texts cut at a byte, once and all along.
-/
namespace Go.Proofs.YtgiegokdcmkfeaaGreatDoor
open Go Go.Vx Go.Shelf Go.RowKit
set_option maxRecDepth 20000
theorem idx1_T (l : List UInt8) (c : UInt8) : Ctr Tryz.prog 102 [(.v (.string (bs l))), (.v (.string (⟨#[c]⟩)))] (fun rr => rr = ⟨(.v (.int .i64 (Lib.indexByte l c))), []⟩) :=
 Ctr.vals (xs := [.string (bs l), .string ⟨#[c]⟩]) Tryz.func102 rfl rfl (u := .int .i64 (Lib.indexByte l c)) (fun g => rfl) fun w => (Any.stringslite_Index_one (ρ := laysIndR) { laysInd with } (bs l) c w).mono fun e w' ⟨he, hw⟩ => ⟨by rw [he, bs_toList], by rw [hw]; exact Below.refl _ _⟩
theorem idx2_T (l : List UInt8) (c : UInt8) : Ctr Tryz.prog 109 [(.v (.string (bs l))), (.v (.string (⟨#[c]⟩)))] (fun rr => rr = ⟨(.v (.int .i64 (Lib.indexByte l c))), []⟩) :=
 Ctr.vals (xs := [.string (bs l), .string ⟨#[c]⟩]) Tryz.func109 rfl rfl (u := .int .i64 (Lib.indexByte l c)) (fun g => rfl) fun w => (Any.strings_Index_one laysInd (bs l) c w).mono fun e w' ⟨he, hw⟩ => ⟨by rw [he, bs_toList], by rw [hw]; exact Below.refl _ _⟩
theorem sz1 (c : UInt8) : (⟨#[c]⟩ : ByteArray).size = 1 := rfl
theorem cutS_hit (A B : List UInt8) (c : UInt8) (hA : ¬ c ∈ A) (hl : A.length + B.length ≤ 1000000) : Ctr Tryz.prog 38 [(.v (.string (bs (A ++ c :: B)))), (.v (.string (⟨#[c]⟩)))] (fun rr => rr = ⟨.tup [(.v (.string (bs A))), (.v (.string (bs B))), (.v (.bool (true)))], []⟩) := by
 have hsz := bs_size (A ++ c :: B)
 have hs1 := sz1 c
 have hlen : (A ++ c :: B).length = A.length + 1 + B.length := by simp; omega
 have e1 : ∀ i j, i = 0 → j = A.length → (bs (A ++ c :: B)).extract i j = bs A := fun i j h1 h2 => by
  rw [show A ++ c :: B = [] ++ A ++ c :: B by simp]; exact bs_ext [] A (c :: B) i j h1 (by simp [h2])
 have e2 : ∀ i j, i = A.length + 1 → j = A.length + 1 + B.length → (bs (A ++ c :: B)).extract i j = bs B := fun i j h1 h2 => by
  rw [show A ++ c :: B = (A ++ [c]) ++ B ++ [] by simp]; exact bs_ext (A ++ [c]) B [] i j (by simp [h1]) (by simp [h2])
 have hi := idx1_T (A ++ c :: B) c
 rw [Go.Vx.byte_at A B hA] at hi
 refine Ctr.of (rs := [.tmp 4, .tmp 5, .tmp 6]) Tok true Tryz.func38 rfl rfl rfl rfl (by simp [ofDL]) (fun w0 kp => ?_)
 simp only [↓sx0, sxE, encs, sevalprocAttr]
 refine CallI.inl (rs := [.tmp 4, .tmp 5, .tmp 6]) Tok Tryz.func77 rfl rfl rfl rfl (by simp) (fun ρ σ μ fr lp => ?_)
 simp only [↓sx0, sxE, encs, sevalprocAttr]
 refine CallI.fn (hi) (by simp only [sx3, encs, sxR, sevalprocAttr] <;> (try simp) <;> (try rfl)) ?_
 simp only [↓sx0, sxE, encs, sevalprocAttr]
 refine BrW.yes (by omega) ?_
 simp only [↓sx0, sxE, encs, sevalprocAttr]
 refine DrawW.plan Tok mixed (.q 0 <| .q 1 <| .q 2 <| .q 3 <| .q 4 <| .q 5 <| .q 6 <| .q 7 <| .q 8 <| .q 9 <| .q 10 <| .q 11 <| .done) (by kernel_rfl) (by kernel_rfl) ?_
 simp only [↓sx0, sxE, encs, sevalprocAttr]
 repeat ((with_reducible refine Vc.go ?_ fun _ => ?_); (focus (first | omega | (simp only [InK]; omega) | (simp [InK]; done) | (simp [InK]; omega))); simp only [↓sx0, sxE, encs, sevalprocAttr])
 rw [e1 _ _ (by omega) (by omega), e2 _ _ (by omega) (by omega)]
 refine EndW.fn ?_ ?_ <;> simp only [sx4, encs, kpLL_map, sxR, sevalprocAttr] <;> (try simp) <;> (try omega)
theorem cutS_miss (r : List UInt8) (c : UInt8) (hr : ¬ c ∈ r) : Ctr Tryz.prog 38 [(.v (.string (bs r))), (.v (.string (⟨#[c]⟩)))] (fun rr => rr = ⟨.tup [(.v (.string (bs r))), (.v (.string (bs []))), (.v (.bool (false)))], []⟩) := by
 have hi := idx1_T r c
 rw [Go.Vx.byte_no r hr] at hi
 refine Ctr.of (rs := [.tmp 4, .tmp 5, .tmp 6]) Tok true Tryz.func38 rfl rfl rfl rfl (by simp [ofDL]) (fun w0 kp => ?_)
 simp only [↓sx0, sxE, encs, sevalprocAttr]
 refine CallI.inl (rs := [.tmp 4, .tmp 5, .tmp 6]) Tok Tryz.func77 rfl rfl rfl rfl (by simp) (fun ρ σ μ fr lp => ?_)
 simp only [↓sx0, sxE, encs, sevalprocAttr]
 refine CallI.fn (hi) (by simp only [sx3, encs, sxR, sevalprocAttr] <;> (try simp) <;> (try rfl)) ?_
 simp only [↓sx0, sxE, encs, sevalprocAttr]
 refine EndW.fn ?_ ?_ <;> simp only [sx4, encs, kpLL_map, sxR, sevalprocAttr] <;> (try simp [bs]) <;> (try omega)
theorem cut1_hit {c : UInt8} {A B : List UInt8} (h : ¬ c ∈ A) : cutL c [] (A ++ c :: B) = A :: cutL c [] B := cut_hit A [] B h
theorem cut1_miss {c : UInt8} {r : List UInt8} (h : ¬ c ∈ r) : cutL c [] r = [r] := cut_miss r [] h
set_option maxHeartbeats 4000000 in
theorem splitIt_s (s : List UInt8) (c : UInt8) (hs : s.length ≤ 1000000) : ItCtrB Tryz.prog 136 9 [(.v (.string (bs s)))] [.pt true [(.v (.string (⟨#[c]⟩)))], .box 0 0, .pt true [(.v (.int .i64 0))]] ((cutL c [] s).map lnY) := by
 have encs := And.intro encs lnY_def
 have hs1 := sz1 c
 refine ItCtrB.of Tok Tryz.func136 rfl rfl rfl rfl (show 4 ≤ 52 by decide) (fun w0 kp yd hok => ?_)
 simp only [↓sx0, sxE, encs, sevalprocAttr]
 skip
 refine BrW.no (by omega) ?_
 simp only [↓sx0, sxE, encs, sevalprocAttr]
 refine LoopW.comp [0, 1, 2, 3] (by simp only [sx2, encs, sxR, sevalprocAttr] <;> (try simp) <;> (try omega)) ?_
 simp only [sx2, sxR, sevalprocAttr]
 refine LoopW.upG Tok (fun x : LS => []) (fun x => [(0, [(.v (.string (bs x.r)))])]) (fun x => []) (fun x => []) (fun x => x.O.map lnY) (fun x => cutL c [] s = x.O ++ cutL c [] x.r ∧ x.r.length ≤ s.length) (fun x => x.r.length) (⟨[], s⟩) (by simp only [sx2, encs, sxR, sevalprocAttr] <;> (try simp [lnY, encs]) <;> (try omega)) ?_ ?_
 ·exact ⟨rfl, Nat.le_refl _⟩
 rintro ⟨O, r⟩ ⟨hO, hr⟩
 simp only at hO hr
 simp only [↓sx0, sxE, encs, sevalprocAttr]
 have hsz := bs_size r
 refine CallI.fn (idx2_T r c) (by simp only [sx3, encs, sxR, sevalprocAttr] <;> (try simp) <;> (try rfl)) ?_
 simp only [↓sx0, sxE, encs, sevalprocAttr]
 by_cases hm : c ∈ r
 ·obtain ⟨A, B, rfl, hA⟩ := split_first hm
  rw [Go.Vx.byte_at A B hA]
  have hlen : (A ++ c :: B).length = A.length + 1 + B.length := by simp; omega
  refine BrW.no (by omega) ?_
  simp only [↓sx0, sxE, encs, sevalprocAttr]
  have e1 : ∀ i j, i = 0 → j = A.length → (bs (A ++ c :: B)).extract i j = bs A := fun i j h1 h2 => by
   rw [show A ++ c :: B = [] ++ A ++ c :: B by simp]; exact bs_ext [] A (c :: B) i j h1 (by simp [h2])
  have e2 : ∀ i j, i = A.length + 1 → j = A.length + 1 + B.length → (bs (A ++ c :: B)).extract i j = bs B := fun i j h1 h2 => by
   rw [show A ++ c :: B = (A ++ [c]) ++ B ++ [] by simp]; exact bs_ext (A ++ [c]) B [] i j (by simp [h1]) (by simp [h2])
  have hst := cut1_hit (B := B) hA
  have hpre : O.map lnY ++ [[(.v (.string (bs A)))]] <+: (cutL c [] s).map lnY := by
   rw [hO, hst]
   exact ⟨(cutL c [] B).map lnY, by simp [lnY]⟩
  have hadd : (O ++ [A]).map lnY = O.map lnY ++ [[(.v (.string (bs A)))]] := by simp [lnY]
  repeat ((with_reducible refine Vc.go ?_ fun _ => ?_); (focus (first | omega | (simp only [InK]; omega) | (simp [InK]; done) | (simp [InK]; omega))); simp only [↓sx0, sxE, encs, sevalprocAttr])
  rw [e1 _ _ (by omega) (by omega)]
  refine YldI.of (ys := O.map lnY) hok rfl rfl (by simp only [sx2, sxA, encs, sxR, sevalprocAttr] <;> rfl) (by simp only [sx2, sxA, encs, sxR, sevalprocAttr] <;> rfl) rfl rfl rfl (hpre) ?_ ?_
  ·simp only [↓sx0, sxE, encs, sevalprocAttr]
   repeat ((with_reducible refine Vc.go ?_ fun _ => ?_); (focus (first | omega | (simp only [InK]; omega) | (simp [InK]; done) | (simp [InK]; omega))); simp only [↓sx0, sxE, encs, sevalprocAttr])
   rw [e2 _ _ (by omega) (by omega)]
   refine ⟨⟨O ++ [A], B⟩, StLe.auto (by simp only [sx2, encs, sxR, sevalprocAttr] <;> (try simp [hadd, encs]) <;> (try omega)), ?_, ?_⟩
   ·exact ⟨by rw [hO, hst]; simp, by show B.length ≤ s.length; omega⟩
   ·simp only; omega
  ·simp only [↓sx0, sxE, encs, sevalprocAttr]
   intro h
   cases h
 ·rw [Go.Vx.byte_no r hm]
  have hst := cut1_miss hm
  have hpre : O.map lnY ++ [[(.v (.string (bs r)))]] <+: (cutL c [] s).map lnY := by
   rw [hO, hst]
   exact ⟨[], by simp [lnY]⟩
  have hadd : (cutL c [] s).map lnY = O.map lnY ++ [[(.v (.string (bs r)))]] := by rw [hO, hst]; simp [lnY]
  refine BrW.yes (by omega) ?_
  simp only [↓sx0, sxE, encs, sevalprocAttr]
  refine YldI.of (ys := O.map lnY) hok rfl rfl (by simp only [sx2, sxA, encs, sxR, sevalprocAttr] <;> rfl) (by simp only [sx2, sxA, encs, sxR, sevalprocAttr] <;> rfl) rfl rfl rfl (hpre) ?_ ?_
  ·simp only [↓sx0, sxE, encs, sevalprocAttr]
   intro _
   exact hadd.symm
  ·simp only [↓sx0, sxE, encs, sevalprocAttr]
   intro h
   cases h
end Go.Proofs.YtgiegokdcmkfeaaGreatDoor
/-
 Chapter 6: folds as texts (the reference).
-/
namespace Go.Proofs.YtgiegokdcmkfeaaGreatDoor
open Go Go.Vx
set_option maxRecDepth 20000
/-- the letter of a fold that is counted. -/
def leF (k : Int) : UInt8 := if k = 1 then 76 else if k = 2 then 82 else if k = 3 then 85 else if k = 4 then 68 else 63
def wrF (f : Fold) : List UInt8 := if f.kind = 5 then [79] else if f.kind = 6 then [84] else leF f.kind :: Lib.itoa f.count
/-- the kind of a letter. -/
def kdF (c : UInt8) : Int := if c = 76 then 1 else if c = 82 then 2 else if c = 85 then 3 else if c = 68 then 4 else 0
def rdF (w : List UInt8) : Fold × Bool :=
 if w = [79] then (⟨5, 0⟩, true) else if w = [84] then (⟨6, 0⟩, true) else
 match w with
 | [] => (⟨0, 0⟩, false)
 | c :: r => if r = [] ∨ kdF c = 0 then (⟨0, 0⟩, false) else (⟨kdF c, (numR r 2).1⟩, (numR r 2).2 && decide (0 ≤ (numR r 2).1))
def ltF (k : Nat) : UInt8 := if k = 1 then 76 else if k = 2 then 82 else if k = 3 then 85 else 68
theorem ext_tail (c : UInt8) (r : List UInt8) (i j : Nat) (hi : i = 1) (hj : j = r.length + 1) : (bs (c :: r)).extract i j = bs r := by
 have := bs_ext [c] r [] i j (by simp [hi]) (by simp [hj]; omega)
 rw [List.append_nil] at this
 exact this
end Go.Proofs.YtgiegokdcmkfeaaGreatDoor
/-
 Chapter 6: folds read (the reference).
-/
namespace Go.Proofs.YtgiegokdcmkfeaaGreatDoor
open Go Go.Vx
set_option maxRecDepth 20000
/-- what ParseFolds answers, by what reads a word. -/
def prsG (rd : List UInt8 → Fold × Bool) (s : List UInt8) : List Fold × Int :=
 if s = [] then ([], 0) else if 12 < (cutL 32 [] s).length then ([], 8) else if (cutL 32 [] s).all (fun w => (rd w).2) = true then ((cutL 32 [] s).map fun w => (rd w).1, 0) else ([], 7)
theorem cutL_sum (c : UInt8) : ∀ (l acc : List UInt8) (w : List UInt8), w ∈ cutL c acc l → w.length ≤ acc.length + l.length
 | [], acc, w, h => by simp only [cutL, List.mem_singleton] at h; subst h; simp
 | b :: l, acc, w, h => by
  rw [cutL] at h
  split at h
  ·rcases List.mem_cons.1 h with e | e
   ·subst e; simp
   ·have := cutL_sum c l [] w e
    simp only [List.length_nil, List.length_cons] at this ⊢; omega
  ·have := cutL_sum c l (acc ++ [b]) w h
   simp only [List.length_append, List.length_cons, List.length_nil] at this ⊢; omega
theorem all_take_succ {α : Type} {l : List α} {f : α → Bool} {k : Nat} (hk : k < l.length) (h : (l.take k).all f = true) (h2 : f l[k] = true) : (l.take (k + 1)).all f = true := by
 rw [List.take_succ_eq_append_getElem hk, List.all_append, h]; simp [h2]
def rdL (rd : List UInt8 → Fold × Bool) (W : List (List UInt8)) (k : Nat) : List Fold := (W.take k).map fun w => (rd w).1
theorem rdL_zero (rd : List UInt8 → Fold × Bool) (W : List (List UInt8)) : rdL rd W 0 = [] := rfl
theorem rdL_succ (rd : List UInt8 → Fold × Bool) {W : List (List UInt8)} {k : Nat} (h : k < W.length) : rdL rd W (k + 1) = rdL rd W k ++ [(rd W[k]).1] := by rw [rdL, List.take_succ_eq_append_getElem h, List.map_append]; rfl
end Go.Proofs.YtgiegokdcmkfeaaGreatDoor
/-
 Chapter 6: folds read (the program).
-/
namespace Go.Proofs.YtgiegokdcmkfeaaGreatDoor
open Go Go.Vx
set_option maxRecDepth 20000
def ixF (c : UInt8) : Int := Lib.indexByte [63, 76, 82, 85, 68] c
def rwP (w : List UInt8) : Fold × Bool :=
 if w = [79] then (⟨5, 0⟩, true) else if w = [84] then (⟨6, 0⟩, true) else
 match w with
 | [] => (⟨0, 0⟩, false)
 | c :: r => (⟨ixF c, (numP r 2).1⟩, decide (0 < ixF c) && (numP r 2).2 && decide (0 ≤ (numP r 2).1))
set_option maxHeartbeats 4000000 in
theorem foldOf_s (w : List UInt8) (hw : w.length ≤ 1000000) : CtrK glob Tryz.prog 44 [(.v (.string (bs w)))] (fun rr => rr = ⟨.tup [.agg [(.v (.int .i64 ((rwP w).1.kind))), (.v (.int .i64 ((rwP w).1.count)))], (.v (.bool ((rwP w).2)))], []⟩) := by
 have h79 : (⟨#[79]⟩ : ByteArray) = bs [79] := rfl
 have h84 : (⟨#[84]⟩ : ByteArray) = bs [84] := rfl
 refine CtrK.of (rs := [.cell 2 65, .tmp 3]) Tok true Tryz.func44 rfl rfl rfl rfl (by simp [ofDL]) (fun w0 kp hgl => ?_)
 simp only [↓sx0, sxE, encs, sevalprocAttr]
 rw [h79]
 refine BrW.dec (fun h1 => ?_) (fun h1 => ?_)
 ·have h1 := bs_inj.1 h1
  subst h1
  simp only [↓sx0, sxE, encs, sevalprocAttr]
  refine EndW.fn ?_ ?_ <;> simp only [sx4, encs, kpLL_map, sxR, sevalprocAttr] <;> (try simp [rwP]) <;> (try omega)
 ·simp only [↓sx0, sxE, encs, sevalprocAttr]
  rw [h84]
  have h1 : ¬ w = [79] := fun e => h1 (by rw [e])
  refine BrW.dec (fun h2 => ?_) (fun h2 => ?_)
  ·have h2 := bs_inj.1 h2
   subst h2
   simp only [↓sx0, sxE, encs, sevalprocAttr]
   refine EndW.fn ?_ ?_ <;> simp only [sx4, encs, kpLL_map, sxR, sevalprocAttr] <;> (try simp [rwP]) <;> (try omega)
  ·have h2 : ¬ w = [84] := fun e => h2 (by rw [e])
   simp only [↓sx0, sxE, encs, sevalprocAttr]
   rw [show (⟨#[]⟩ : ByteArray) = bs [] from rfl]
   refine BrW.dec (fun h0 => ?_) (fun h0 => ?_)
   ·have h0 := bs_inj.1 h0
    subst h0
    simp only [↓sx0, sxE, encs, sevalprocAttr]
    refine EndW.fn ?_ ?_ <;> simp only [sx4, encs, kpLL_map, sxR, sevalprocAttr] <;> (try simp [rwP]) <;> (try omega)
   ·obtain ⟨c, r, rfl⟩ : ∃ c r, w = c :: r := by
     cases w with
     | nil => exact absurd rfl h0
     | cons c r => exact ⟨c, r, rfl⟩
    have hlc : (c :: r).length = r.length + 1 := rfl
    have hsz := bs_size (c :: r)
    simp only [↓sx0, sxE, encs, sevalprocAttr]
    have hs7 : (⟨#[63, 76, 82, 85, 68, 84, 79]⟩ : ByteArray).size = 7 := rfl
    have hi := indexByte_s (bs [63, 76, 82, 85, 68]) (c.toNat : Int)
    rw [bs_toList, show ((c.toNat : Int)).toNat.toUInt8 = c from UInt8.ofNat_toNat, show Lib.indexByte [63, 76, 82, 85, 68] c = ixF c from rfl] at hi
    have hv : rwP (c :: r) = (⟨ixF c, (numP r 2).1⟩, decide (0 < ixF c) && (numP r 2).2 && decide (0 ≤ (numP r 2).1)) := by
     unfold rwP
     rw [if_neg h1, if_neg h2]
    have hn := number_s (bs r) 2 (by rw [bs_size]; omega) (by decide)
    rw [bs_toList] at hn
    refine DrawW.plan Tok mixed (.q 0 <| .q 1 <| .e 2 [] <| .e 3 [] <| .q 4 <| .done) (by kernel_rfl) (by kernel_rfl) ?_
    simp only [↓sx0, sxE, encs, sevalprocAttr]
    repeat ((with_reducible refine Vc.go ?_ fun _ => ?_); (focus (first | omega | (simp only [InK]; omega) | (simp [InK]; done) | (simp [InK]; omega))); simp only [↓sx0, sxE, encs, sevalprocAttr])
    refine sIx_0 ?_
    simp only [↓sx0, sxE, encs, sevalprocAttr]
    rw [show (⟨#[63, 76, 82, 85, 68, 84, 79]⟩ : ByteArray).extract 0 5 = bs [63, 76, 82, 85, 68] from rfl]
    refine CallI.fn (hi) (by simp only [sx3, encs, sxR, sevalprocAttr] <;> (try simp) <;> (try rfl)) ?_
    simp only [↓sx0, sxE, encs, sevalprocAttr]
    repeat ((with_reducible refine Vc.go ?_ fun _ => ?_); (focus (first | omega | (simp only [InK]; omega) | (simp [InK]; done) | (simp [InK]; omega))); simp only [↓sx0, sxE, encs, sevalprocAttr])
    rw [ext_tail c r _ _ rfl (by omega)]
    refine CallI.fnK (hn) glob_ok hgl rfl (by simp only [sx3, encs, sxR, sevalprocAttr] <;> (try simp) <;> (try rfl)) ?_
    simp only [↓sx0, sxE, encs, sevalprocAttr]
    refine BrW.dec (fun hpos => ?_) (fun hpos => ?_)
    ·simp only [↓sx0, sxE, encs, sevalprocAttr]
     refine BrW.of (fun hb => ?_) (fun hb => ?_)
     ·simp only [↓sx0, sxE, encs, sevalprocAttr]
      refine EndW.fn ?_ ?_ <;> simp only [sx4, encs, kpLL_map, sxR, sevalprocAttr] <;> (try simp [hv, hb, hpos]) <;> (try omega)
     ·simp only [↓sx0, sxE, encs, sevalprocAttr]
      refine EndW.fn ?_ ?_ <;> simp only [sx4, encs, kpLL_map, sxR, sevalprocAttr] <;> (try simp [hv, hb, hpos]) <;> (try omega)
    ·simp only [↓sx0, sxE, encs, sevalprocAttr]
     refine EndW.fn ?_ ?_ <;> simp only [sx4, encs, kpLL_map, sxR, sevalprocAttr] <;> (try simp [hv, hpos]) <;> (try omega)
end Go.Proofs.YtgiegokdcmkfeaaGreatDoor
/-
 Chapter 6: folds read (the program).
-/
namespace Go.Proofs.YtgiegokdcmkfeaaGreatDoor
open Go Go.Vx
set_option maxRecDepth 20000
theorem split_T (s : List UInt8) (hs : s.length ≤ 1000000) : CtrK glob Tryz.prog 43 [(.v (.string (bs s))), (.v (.string (⟨#[32]⟩)))] (fun rr => rr = ⟨.row 0, [.own 9 1 ((cutL 32 [] s).map eT)]⟩) := by
 have h := split_s (bs s) 32 (by rw [bs_size]; omega)
 have e := split_cut 32 (bs s)
 rw [bs_toList] at e
 rw [show (cutL 32 [] s).map eT = (Lib.splitB ⟨#[32]⟩ 0 (Lib.countB (bs s) ⟨#[32]⟩) (bs s)).map fun x => [.v (.string x)] by
  rw [← e, List.map_map]
  exact List.map_congr_left fun x _ => by simp only [Function.comp, eT, bs_data]]
 exact h
set_option maxHeartbeats 4000000 in
theorem parse_s (s : List UInt8) (hs : s.length ≤ 1000000) : CtrK glob Tryz.prog 11 [(.v (.string (bs s)))] (fun rr => rr = ⟨.tup [.sl true 2 ((prsG rwP s).1.map eF), (.v (.int .i64 ((prsG rwP s).2)))], []⟩) := by
 have encs := And.intro encs (And.intro eT_def (show ∀ f, eF f = [(.v (.int .i64 f.kind)), (.v (.int .i64 f.count))] from fun _ => rfl))
 refine CtrK.of (rs := [.tmp 2, .tmp 3]) Tok true Tryz.func11 rfl rfl rfl rfl (by simp [ofDL]) (fun w0 kp hgl => ?_)
 simp only [↓sx0, sxE, encs, sevalprocAttr]
 rw [show (⟨#[]⟩ : ByteArray) = bs [] from rfl]
 refine BrW.dec (fun h0 => ?_) (fun h0 => ?_)
 ·have h0 := bs_inj.1 h0
  subst h0
  simp only [↓sx0, sxE, encs, sevalprocAttr]
  refine EndW.fn ?_ ?_ <;> simp only [sx4, encs, kpLL_map, sxR, sevalprocAttr] <;> (try simp [prsG]) <;> (try omega)
 ·have h0 : ¬ s = [] := fun e => h0 (by rw [e])
  simp only [↓sx0, sxE, encs, sevalprocAttr]
  refine CallI.ctrK (split_T s (by omega)) glob_ok hgl rfl (by simp only [sx3, encs, sxR, sevalprocAttr] <;> (try simp) <;> (try rfl)) ?_
  rintro _ rfl
  simp only [↓sx0, sxE, encs, sevalprocAttr]
  refine BrW.dec (fun h1 => ?_) (fun h1 => ?_)
  ·simp only [↓sx0, sxE, encs, sevalprocAttr]
   have hv : prsG rwP s = ([], 8) := by rw [prsG, if_neg h0, if_pos (by omega)]
   refine EndW.fn ?_ ?_ <;> simp only [sx4, encs, kpLL_map, sxR, sevalprocAttr] <;> (try simp [hv]) <;> (try omega)
  ·simp only [↓sx0, sxE, encs, sevalprocAttr]
   have hn : ¬ 12 < (cutL 32 [] s).length := by omega
   refine LoopW.comp [5, 17, 18, 19] (by simp only [sx2, encs, sxR, sevalprocAttr] <;> (try simp) <;> (try omega)) ?_
   simp only [sx2, sxR, sevalprocAttr]
   refine LoopW.up Tok (fun k : Nat => [(5, .row 1), (19, (.v (.int .i64 ((k : Int)))))]) (fun k => []) (fun k => []) (fun k => [.own 65 2 ((rdL rwP (cutL 32 [] s) k).map eF)]) (fun k => k ≤ (cutL 32 [] s).length ∧ ((cutL 32 [] s).take k).all (fun w => (rwP w).2) = true) (fun k => (cutL 32 [] s).length - k) (0) (by simp only [sx2, encs, sxR, sevalprocAttr] <;> (try simp [rdL_zero, encs]) <;> (try omega)) ?_ ?_
   ·exact ⟨Nat.zero_le _, by simp⟩
   rintro k ⟨hk, ha⟩
   simp only [↓sx0, sxE, encs, sevalprocAttr]
   refine BrW.dec (fun hlt => ?_) (fun hlt => ?_)
   ·simp only [↓sx0, sxE, encs, sevalprocAttr]
    have hlt : k < (cutL 32 [] s).length := by omega
    repeat ((with_reducible refine Vc.go ?_ fun _ => ?_); (focus (first | omega | (simp only [InK]; omega) | (simp [InK]; done) | (simp [InK]; omega))); simp only [↓sx0, sxE, encs, sevalprocAttr])
    refine IxW.nat hlt ?_
    simp only [↓sx0, sxE, encs, sevalprocAttr]
    have hwl := cutL_sum 32 s [] _ (List.getElem_mem hlt)
    simp only [List.length_nil] at hwl
    refine CallI.fnK (foldOf_s (cutL 32 [] s)[k] (by omega)) glob_ok hgl rfl (by simp only [sx3, encs, sxR, sevalprocAttr] <;> (try simp) <;> (try rfl)) ?_
    simp only [↓sx0, sxE, encs, sevalprocAttr]
    refine BrW.of (fun hb => ?_) (fun hb => ?_)
    ·simp only [↓sx0, sxE, encs, sevalprocAttr]
     have hkl : (rdL rwP (cutL 32 [] s) k).length = k := by rw [rdL, List.length_map, List.length_take]; omega
     repeat ((with_reducible refine Vc.go ?_ fun _ => ?_); (focus (first | omega | (simp only [InK]; omega) | (simp [InK]; done) | (simp [InK]; omega))); simp only [↓sx0, sxE, encs, sevalprocAttr])
     have htk := rdL_succ rwP hlt
     refine ⟨k + 1, StLe.auto (by simp only [sx2, encs, sxR, sevalprocAttr] <;> (try simp [htk, encs]) <;> (try omega)), ?_, ?_⟩
     ·exact ⟨hlt, all_take_succ hlt ha hb⟩
     ·omega
    ·simp only [↓sx0, sxE, encs, sevalprocAttr]
     have hv : prsG rwP s = ([], 7) := by
      rw [prsG, if_neg h0, if_neg hn, if_neg (fun h => by
       rw [List.all_eq_true] at h
       rw [h _ (List.getElem_mem hlt)] at hb
       cases hb)]
     refine EndW.fn ?_ ?_ <;> simp only [sx4, encs, kpLL_map, sxR, sevalprocAttr] <;> (try simp [hv]) <;> (try omega)
   ·simp only [↓sx0, sxE, encs, sevalprocAttr]
    have hke : k = (cutL 32 [] s).length := by omega
    subst hke
    rw [List.take_length] at ha
    have hv : prsG rwP s = (rdL rwP (cutL 32 [] s) (cutL 32 [] s).length, 0) := by rw [prsG, if_neg h0, if_neg hn, if_pos ha, rdL, List.take_length]
    refine EndW.fn ?_ ?_ <;> simp only [sx4, encs, kpLL_map, sxR, sevalprocAttr] <;> (try simp [hv]) <;> (try omega)
end Go.Proofs.YtgiegokdcmkfeaaGreatDoor
/-
 Chapter 6, walks: a cell read, a line of cells read.
-/
namespace Go.Proofs.YtgiegokdcmkfeaaGreatDoor
open Go Go.Vx
set_option maxRecDepth 20000
theorem cutL_mem (c : UInt8) : ∀ (l acc w : List UInt8), w ∈ cutL c acc l → w.length ≤ acc.length + l.length
 | [], acc, w, h => by
  simp only [cutL, List.mem_singleton] at h
  subst h; simp
 | x :: l, acc, w, h => by
  simp only [cutL] at h
  split at h
  ·rcases List.mem_cons.1 h with rfl | h
   ·simp
   ·have := cutL_mem c l [] w h
    simp only [List.length_nil, List.length_cons] at *; omega
  ·have := cutL_mem c l (acc ++ [x]) w h
   simp only [List.length_append, List.length_cons, List.length_nil] at *; omega
theorem splitC_T (s : List UInt8) (c : UInt8) (hs : s.length ≤ 1000000) : CtrK glob Tryz.prog 43 [(.v (.string (bs s))), (.v (.string (⟨#[c]⟩)))] (fun rr => rr = ⟨.row 0, [.own 9 1 ((cutL c [] s).map eT)]⟩) := by
 have h := split_s (bs s) c (by rw [bs_size]; omega)
 have e := split_cut c (bs s)
 rw [bs_toList] at e
 rw [show (cutL c [] s).map eT = (Lib.splitB ⟨#[c]⟩ 0 (Lib.countB (bs s) ⟨#[c]⟩) (bs s)).map fun x => [.v (.string x)] by
  rw [← e, List.map_map]
  exact List.map_congr_left fun x _ => by simp only [Function.comp, eT, bs_data]]
 exact h
def n4P (w : List UInt8) : Int × Bool := numP w 4
def n4R (w : List UInt8) : Int × Bool := numR w 4
def c00 : Cell := ⟨0, 0, 0, 0⟩
/-- a cell's text, read by such a reader of numbers. -/
def celK (num : List UInt8 → Int × Bool) (x : List UInt8) : Cell × Bool :=
 match cutL 47 [] x with
 | [a, b, c, d] => if (num a).2 = true ∧ (num b).2 = true ∧ (num c).2 = true ∧ (num d).2 = true then (⟨(num a).1, (num b).1, (num c).1, (num d).1⟩, true) else (c00, false)
 | _ => (c00, false)
theorem celK_len {num : List UInt8 → Int × Bool} {x : List UInt8} (h : ¬ (cutL 47 [] x).length = 4) : celK num x = (c00, false) := by
 unfold celK
 split
 ·rename_i e; rw [e] at h; exact absurd rfl h
 ·rfl
def cC (c : Cell) : SV := .agg [(.v (.int .i64 c.front)), (.v (.int .i64 c.fturn)), (.v (.int .i64 c.back)), (.v (.int .i64 c.bturn))]
theorem cC_eq : (∀ c, cC c = .agg [(.v (.int .i64 c.front)), (.v (.int .i64 c.fturn)), (.v (.int .i64 c.back)), (.v (.int .i64 c.bturn))]) ∧ c00 = ⟨0, 0, 0, 0⟩ := ⟨fun _ => rfl, rfl⟩
/-- what has been read of the numbers. -/
def arC (a b c d : Int) (k i : Nat) : Int := if i < k then (match i with | 0 => a | 1 => b | 2 => c | _ => d) else 0
set_option maxHeartbeats 16000000 in
theorem cellOf_s (x : List UInt8) (hx : x.length ≤ 100000) : CtrK glob Tryz.prog 81 [(.v (.string (bs x)))] (fun rr => rr = ⟨.tup [cC (celK n4P x).1, (.v (.bool ((celK n4P x).2)))], []⟩) := by
 have hmem := cutL_mem 47 x []
 have encs := And.intro encs (And.intro eT_def cC_eq)
 refine CtrK.of (rs := [.cell 2 63, .tmp 3]) Tok true Tryz.func81 rfl rfl rfl rfl (by simp [ofDL]) (fun w0 kp hgl => ?_)
 simp only [↓sx0, sxE, encs, sevalprocAttr]
 refine CallI.ctrK (splitC_T x 47 (by omega)) glob_ok hgl rfl (by simp only [sx3, encs, sxR, sevalprocAttr] <;> (try simp) <;> (try rfl)) ?_
 rintro _ rfl
 simp only [↓sx0, sxE, encs, sevalprocAttr]
 by_cases h4 : (cutL 47 [] x).length = 4
 ·obtain ⟨a, b, c, d, hw⟩ : ∃ a b c d, cutL 47 [] x = [a, b, c, d] := by
   match hw : cutL 47 [] x, h4 with
   | [a, b, c, d], _ => exact ⟨a, b, c, d, rfl⟩
  have hcel : celK n4P x = if (n4P a).2 = true ∧ (n4P b).2 = true ∧ (n4P c).2 = true ∧ (n4P d).2 = true then (⟨(n4P a).1, (n4P b).1, (n4P c).1, (n4P d).1⟩, true) else (c00, false) := by
   unfold celK; rw [hw]
  have la := hmem a (by rw [hw]; simp); have lb := hmem b (by rw [hw]; simp); have lc := hmem c (by rw [hw]; simp); have ld := hmem d (by rw [hw]; simp)
  simp only [List.length_nil, Nat.zero_add] at la lb lc ld
  rw [hw]
  have key : ∀ w : List UInt8, w.length ≤ x.length → CtrK glob Tryz.prog 39 [(.v (.string (bs w))), (.v (.int .i64 4))] (fun rr => rr = ⟨.tup [(.v (.int .i64 ((n4P w).1))), (.v (.bool ((n4P w).2)))], []⟩) := fun w hw => by
   have h := number_s (bs w) 4 (by rw [bs_size]; omega) (by omega)
   rw [bs_toList] at h
   exact h
  have na := key a la; have nb := key b lb; have nc := key c lc; have nd := key d ld
  refine BrW.no (by simp) ?_
  simp only [↓sx0, sxE, encs, sevalprocAttr]
  generalize hpa : n4P a = pa at hcel na
  generalize hpb : n4P b = pb at hcel nb
  generalize hpc : n4P c = pc at hcel nc
  generalize hpd : n4P d = pd at hcel nd
  refine LoopW.comp [2, 5, 15, 16, 17] (by simp only [sx2, encs, sxR, sevalprocAttr] <;> (try simp) <;> (try omega)) ?_
  simp only [sx2, sxR, sevalprocAttr]
  refine LoopW.up Tok (fun k : Nat => [(17, (.v (.int .i64 ((k : Int)))))]) (fun k => [(1, [(.v (.int .i64 (arC pa.1 pb.1 pc.1 pd.1 k 0))), (.v (.int .i64 (arC pa.1 pb.1 pc.1 pd.1 k 1))), (.v (.int .i64 (arC pa.1 pb.1 pc.1 pd.1 k 2))), (.v (.int .i64 (arC pa.1 pb.1 pc.1 pd.1 k 3)))])]) (fun k => []) (fun k => []) (fun k => k ≤ 4 ∧ (0 < k → pa.2 = true) ∧ (1 < k → pb.2 = true) ∧ (2 < k → pc.2 = true) ∧ (3 < k → pd.2 = true)) (fun k => 4 - k) (0) (by simp only [sx2, encs, sxR, sevalprocAttr] <;> (try simp [arC, encs]) <;> (try omega)) ?_ ?_
  ·exact ⟨by omega, fun h => absurd h (by omega), fun h => absurd h (by omega), fun h => absurd h (by omega), fun h => absurd h (by omega)⟩
  rintro k ⟨hk, ka, kb, kc, kd⟩
  have hk5 : k = 0 ∨ k = 1 ∨ k = 2 ∨ k = 3 ∨ k = 4 := by omega
  rcases hk5 with rfl | rfl | rfl | rfl | rfl
  ·simp only [↓sx0, sxE, encs, sevalprocAttr]
   repeat ((with_reducible refine Vc.go ?_ fun _ => ?_); (focus (first | omega | (simp only [InK]; omega) | (simp [InK]; done) | (simp [InK]; omega))); simp only [↓sx0, sxE, encs, sevalprocAttr])
   refine ⟨by omega, _, rfl, ?_⟩
   simp only [↓sx0, sxE, encs, sevalprocAttr]
   refine CallI.fnK (na) glob_ok hgl rfl (by simp only [sx3, encs, sxR, sevalprocAttr] <;> (try simp) <;> (try rfl)) ?_
   simp only [↓sx0, sxE, encs, sevalprocAttr]
   repeat ((with_reducible refine Vc.go ?_ fun _ => ?_); (focus (first | omega | (simp only [InK]; omega) | (simp [InK]; done) | (simp [InK]; omega))); simp only [↓sx0, sxE, encs, sevalprocAttr])
   refine BrW.of (fun ho => ?_) (fun ho => ?_)
   ·simp only [↓sx0, sxE, encs, sevalprocAttr]
    repeat ((with_reducible refine Vc.go ?_ fun _ => ?_); (focus (first | omega | (simp only [InK]; omega) | (simp [InK]; done) | (simp [InK]; omega))); simp only [↓sx0, sxE, encs, sevalprocAttr])
    refine ⟨1, StLe.auto (by simp only [sx2, encs, sxR, sevalprocAttr] <;> (try simp [arC, encs]) <;> (try omega)), ?_, ?_⟩
    ·exact ⟨by omega, fun _ => ho, fun _ => absurd ‹_› (by omega), fun _ => absurd ‹_› (by omega), fun _ => absurd ‹_› (by omega)⟩
    ·omega
   ·rw [if_neg (by simp [ho])] at hcel
    rw [hcel]
    simp only [↓sx0, sxE, encs, sevalprocAttr]
    refine EndW.fn ?_ ?_ <;> simp only [sx4, encs, kpLL_map, sxR, sevalprocAttr] <;> (try simp) <;> (try omega)
  ·simp only [↓sx0, sxE, encs, sevalprocAttr]
   repeat ((with_reducible refine Vc.go ?_ fun _ => ?_); (focus (first | omega | (simp only [InK]; omega) | (simp [InK]; done) | (simp [InK]; omega))); simp only [↓sx0, sxE, encs, sevalprocAttr])
   refine ⟨by omega, _, rfl, ?_⟩
   simp only [↓sx0, sxE, encs, sevalprocAttr]
   refine CallI.fnK (nb) glob_ok hgl rfl (by simp only [sx3, encs, sxR, sevalprocAttr] <;> (try simp) <;> (try rfl)) ?_
   simp only [↓sx0, sxE, encs, sevalprocAttr]
   repeat ((with_reducible refine Vc.go ?_ fun _ => ?_); (focus (first | omega | (simp only [InK]; omega) | (simp [InK]; done) | (simp [InK]; omega))); simp only [↓sx0, sxE, encs, sevalprocAttr])
   refine BrW.of (fun ho => ?_) (fun ho => ?_)
   ·simp only [↓sx0, sxE, encs, sevalprocAttr]
    repeat ((with_reducible refine Vc.go ?_ fun _ => ?_); (focus (first | omega | (simp only [InK]; omega) | (simp [InK]; done) | (simp [InK]; omega))); simp only [↓sx0, sxE, encs, sevalprocAttr])
    refine ⟨2, StLe.auto (by simp only [sx2, encs, sxR, sevalprocAttr] <;> (try simp [arC, encs]) <;> (try omega)), ?_, ?_⟩
    ·exact ⟨by omega, fun _ => ka (by omega), fun _ => ho, fun _ => absurd ‹_› (by omega), fun _ => absurd ‹_› (by omega)⟩
    ·omega
   ·rw [if_neg (by simp [ho])] at hcel
    rw [hcel]
    simp only [↓sx0, sxE, encs, sevalprocAttr]
    refine EndW.fn ?_ ?_ <;> simp only [sx4, encs, kpLL_map, sxR, sevalprocAttr] <;> (try simp) <;> (try omega)
  ·simp only [↓sx0, sxE, encs, sevalprocAttr]
   repeat ((with_reducible refine Vc.go ?_ fun _ => ?_); (focus (first | omega | (simp only [InK]; omega) | (simp [InK]; done) | (simp [InK]; omega))); simp only [↓sx0, sxE, encs, sevalprocAttr])
   refine ⟨by omega, _, rfl, ?_⟩
   simp only [↓sx0, sxE, encs, sevalprocAttr]
   refine CallI.fnK (nc) glob_ok hgl rfl (by simp only [sx3, encs, sxR, sevalprocAttr] <;> (try simp) <;> (try rfl)) ?_
   simp only [↓sx0, sxE, encs, sevalprocAttr]
   repeat ((with_reducible refine Vc.go ?_ fun _ => ?_); (focus (first | omega | (simp only [InK]; omega) | (simp [InK]; done) | (simp [InK]; omega))); simp only [↓sx0, sxE, encs, sevalprocAttr])
   refine BrW.of (fun ho => ?_) (fun ho => ?_)
   ·simp only [↓sx0, sxE, encs, sevalprocAttr]
    repeat ((with_reducible refine Vc.go ?_ fun _ => ?_); (focus (first | omega | (simp only [InK]; omega) | (simp [InK]; done) | (simp [InK]; omega))); simp only [↓sx0, sxE, encs, sevalprocAttr])
    refine ⟨3, StLe.auto (by simp only [sx2, encs, sxR, sevalprocAttr] <;> (try simp [arC, encs]) <;> (try omega)), ?_, ?_⟩
    ·exact ⟨by omega, fun _ => ka (by omega), fun _ => kb (by omega), fun _ => ho, fun _ => absurd ‹_› (by omega)⟩
    ·omega
   ·rw [if_neg (by simp [ho])] at hcel
    rw [hcel]
    simp only [↓sx0, sxE, encs, sevalprocAttr]
    refine EndW.fn ?_ ?_ <;> simp only [sx4, encs, kpLL_map, sxR, sevalprocAttr] <;> (try simp) <;> (try omega)
  ·simp only [↓sx0, sxE, encs, sevalprocAttr]
   repeat ((with_reducible refine Vc.go ?_ fun _ => ?_); (focus (first | omega | (simp only [InK]; omega) | (simp [InK]; done) | (simp [InK]; omega))); simp only [↓sx0, sxE, encs, sevalprocAttr])
   refine ⟨by omega, _, rfl, ?_⟩
   simp only [↓sx0, sxE, encs, sevalprocAttr]
   refine CallI.fnK (nd) glob_ok hgl rfl (by simp only [sx3, encs, sxR, sevalprocAttr] <;> (try simp) <;> (try rfl)) ?_
   simp only [↓sx0, sxE, encs, sevalprocAttr]
   repeat ((with_reducible refine Vc.go ?_ fun _ => ?_); (focus (first | omega | (simp only [InK]; omega) | (simp [InK]; done) | (simp [InK]; omega))); simp only [↓sx0, sxE, encs, sevalprocAttr])
   refine BrW.of (fun ho => ?_) (fun ho => ?_)
   ·simp only [↓sx0, sxE, encs, sevalprocAttr]
    repeat ((with_reducible refine Vc.go ?_ fun _ => ?_); (focus (first | omega | (simp only [InK]; omega) | (simp [InK]; done) | (simp [InK]; omega))); simp only [↓sx0, sxE, encs, sevalprocAttr])
    refine ⟨4, StLe.auto (by simp only [sx2, encs, sxR, sevalprocAttr] <;> (try simp [arC, encs]) <;> (try omega)), ?_, ?_⟩
    ·exact ⟨by omega, fun _ => ka (by omega), fun _ => kb (by omega), fun _ => kc (by omega), fun _ => ho⟩
    ·omega
   ·rw [if_neg (by simp [ho])] at hcel
    rw [hcel]
    simp only [↓sx0, sxE, encs, sevalprocAttr]
    refine EndW.fn ?_ ?_ <;> simp only [sx4, encs, kpLL_map, sxR, sevalprocAttr] <;> (try simp) <;> (try omega)
  ·rw [if_pos ⟨ka (by omega), kb (by omega), kc (by omega), kd (by omega)⟩] at hcel
   rw [hcel]
   simp only [↓sx0, sxE, encs, sevalprocAttr]
   repeat ((with_reducible refine Vc.go ?_ fun _ => ?_); (focus (first | omega | (simp only [InK]; omega) | (simp [InK]; done) | (simp [InK]; omega))); simp only [↓sx0, sxE, encs, sevalprocAttr])
   refine EndW.fn ?_ ?_ <;> simp only [sx4, encs, kpLL_map, sxR, sevalprocAttr] <;> (try simp [arC]) <;> (try omega)
 ·rw [celK_len h4]
  refine BrW.yes (by omega) ?_
  simp only [↓sx0, sxE, encs, sevalprocAttr]
  refine EndW.fn ?_ ?_ <;> simp only [sx4, encs, kpLL_map, sxR, sevalprocAttr] <;> (try simp) <;> (try omega)
end Go.Proofs.YtgiegokdcmkfeaaGreatDoor
/-
 Chapter 6, walks: a line of cells read.
-/
namespace Go.Proofs.YtgiegokdcmkfeaaGreatDoor
open Go Go.Vx
set_option maxRecDepth 20000
/-- cells read, behind others. -/
def rowG (num : List UInt8 → Int × Bool) : List (List UInt8) → List Cell → List Cell × Bool
 | [], acc => (acc, true)
 | x :: xs, acc => if (celK num x).2 = true then rowG num xs (acc ++ [(celK num x).1]) else ([], false)
def rowN (num : List UInt8 → Int × Bool) (ws : List (List UInt8)) (n : Nat) : List Cell := (ws.take n).map fun x => (celK num x).1
theorem rowN_succ {num : List UInt8 → Int × Bool} {ws : List (List UInt8)} {n : Nat} {x : List UInt8} {r : List (List UInt8)} (h : ws.drop n = x :: r) : rowN num ws (n + 1) = rowN num ws n ++ [(celK num x).1] := by
 have hn : n < ws.length := by
  have := congrArg List.length h
  simp at this; omega
 have hp : ws[n] = x := by
  have := List.drop_eq_getElem_cons hn
  rw [h] at this; exact (List.cons.inj this).1.symm
 rw [rowN, List.take_succ_eq_append_getElem hn, List.map_append, hp]; rfl
theorem rowN_len {num : List UInt8 → Int × Bool} {ws : List (List UInt8)} {n : Nat} (h : n ≤ ws.length) : (rowN num ws n).length = n := by simp [rowN]; omega
set_option maxHeartbeats 16000000 in
theorem rowOf_s (w : List UInt8) (hw : w.length ≤ 100000) : CtrK glob Tryz.prog 40 [(.v (.string (bs w)))] (fun rr => rr = ⟨.tup [.sl true 4 ((rowG n4P (cutL 32 [] w) []).1.map eC), (.v (.bool ((rowG n4P (cutL 32 [] w) []).2)))], []⟩) := by
 have hmem := cutL_mem 32 w []
 have hlen := cutL_len 32 w []
 have hcnt := List.count_le_length (a := (32 : UInt8)) (l := w)
 have hit := splitIt_s w 32 (by omega)
 generalize hws : cutL 32 [] w = ws at hmem hlen hit
 have encs := And.intro encs (And.intro cC_eq (And.intro sxFb (And.intro sxFz (And.intro lnY_def (show rowN n4P ws 0 = [] from rfl)))))
 refine CtrK.of (rs := [.cell 2 27, .cell 3 4]) Tok true Tryz.func40 rfl rfl rfl rfl (by simp [ofDL]) (fun w0 kp hgl => ?_)
 simp only [↓sx0, sxE, encs, sevalprocAttr]
 refine CallI.inl (rs := [.tmp 4]) Tok Tryz.func80 rfl rfl rfl rfl (by simp) (fun ρ σ μ fr lp => ?_)
 simp only [↓sx0, sxE, encs, sevalprocAttr]
 refine CallI.inl (rs := [.tmp 6]) Tok Tryz.func106 rfl rfl rfl rfl (by simp) (fun ρ σ μ fr lp => ?_)
 simp only [↓sx0, sxE, encs, sevalprocAttr]
 refine RangeW.fz1 4 rfl rfl rfl (fun _ => rfl) (by simp only [sx2, List.map_cons, List.map_nil, encs, sxR, sevalprocAttr] <;> rfl) ?_
 refine RangeW.fz1 5 rfl rfl rfl (fun _ => rfl) (by simp only [sx2, List.map_cons, List.map_nil, encs, sxR, sevalprocAttr] <;> rfl) ?_
 refine RangeW.itB (k := 3) rfl Tok (fun _ => rfl) (fun hro => by first | rfl | exact (by rw [hro] at *; contradiction)) hit [(2, .box 0 0), (3, .box 1 0), (4, .box 2 0), (9, .clo 136 [.pt true [(.v (.string (⟨#[32]⟩)))], .box 3 0, .pt true [(.v (.int .i64 0))]])]
  [some ⟨27, [.v (.slice none 0 0)]⟩, some ⟨4, [(.v (.bool (false)))]⟩, some ⟨27, [.row 0]⟩, some ⟨9, [(.v (.string (bs w)))]⟩]
  (fun _ => [some ⟨27, [.v (.slice none 0 0)]⟩, some ⟨4, [(.v (.bool (false)))]⟩, some ⟨27, [.row 0]⟩, none])
  (fun ys => [.own 63 4 ((rowN n4P ws ys.length).map eC)]) (fun ys => rowG n4P ws [] = rowG n4P (ws.drop ys.length) (rowN n4P ws ys.length)) rfl (by simp only [sx2, encs, sxR, sevalprocAttr] <;> (try simp) <;> (try omega)) rfl rfl rfl rfl rfl (by simp [lnY]) ?_ (fun hJ => ?_)
 ·rintro pre d hpre hJ ρ σ μ ho' hy hs'
  obtain ⟨yd', ro, mks, fr, lp, sz⟩ := ho'
  obtain ⟨q, hq⟩ := hpre
  have hget : (ws.map lnY)[pre.length]? = some d := by rw [← hq]; simp
  rw [List.getElem?_map] at hget
  obtain ⟨x, hx, rfl⟩ := Option.map_eq_some_iff.1 hget
  have hn : pre.length < ws.length := (List.getElem?_eq_some_iff.1 hx).1
  have hdr : ws.drop pre.length = x :: ws.drop (pre.length + 1) := by
   rw [List.drop_eq_getElem_cons hn, (List.getElem?_eq_some_iff.1 hx).2]
  have hsuc := rowN_succ (num := n4P) hdr
  have hlp : (pre ++ [lnY x]).length = pre.length + 1 := by simp
  have hacc := rowN_len (num := n4P) (n := pre.length) (ws := ws) (by omega)
  have hxl := hmem x (List.mem_of_getElem? hx)
  simp only [List.length_nil, Nat.zero_add] at hxl
  have cP := cellOf_s x (by omega)
  rw [hlp, hsuc]
  rw [hdr, rowG] at hJ
  generalize rowN n4P ws pre.length = acc at *
  generalize hcel : celK n4P x = cel at *
  rw [lnY_def]
  simp only [↓sx0, sxE, encs, sevalprocAttr]
  intro fr' hfr
  refine CallI.fnKI (cP) glob_ok hgl rfl hfr (by simp only [sx3, encs, sxR, sevalprocAttr] <;> (try simp) <;> (try rfl)) ?_
  simp only [↓sx0, sxE, encs, sevalprocAttr]
  refine BrW.of (fun ho => ?_) (fun ho => ?_)
  ·rw [if_pos ho] at hJ
   simp only [↓sx0, sxE, encs, sevalprocAttr]
   repeat ((with_reducible refine Vc.go ?_ fun _ => ?_); (focus (first | omega | (simp only [InK]; omega) | (simp [InK]; done) | (simp [InK]; omega))); simp only [↓sx0, sxE, encs, sevalprocAttr])
   refine ⟨?_, ?_⟩
   ·rw [hJ]
   ·simp only [sx2, encs, sxR, sevalprocAttr] <;> (try simp) <;> (try omega)
    rfl
  ·rw [if_neg (by simp [ho])] at hJ
   rw [hJ]
   simp only [↓sx0, sxE, encs, sevalprocAttr]
   refine EndW.fn ?_ ?_ <;> simp only [sx4, encs, kpLL_map, sxR, sevalprocAttr] <;> (try simp) <;> (try omega)
 ·rw [List.length_map, List.drop_length, rowG] at hJ
  rw [List.length_map, hJ]
  simp only [↓sx0, sxE, encs, sevalprocAttr]
  refine EndW.fn ?_ ?_ <;> simp only [sx4, encs, kpLL_map, sxR, sevalprocAttr] <;> (try simp) <;> (try omega)
end Go.Proofs.YtgiegokdcmkfeaaGreatDoor
/-
 Chapter 6, walks: the law of schemes.
-/
namespace Go.Proofs.YtgiegokdcmkfeaaGreatDoor
open Go Go.Vx
set_option maxRecDepth 20000
end Go.Proofs.YtgiegokdcmkfeaaGreatDoor
/-
 Chapter 6, walks: widths; what is read of a scheme's text.
-/
namespace Go.Proofs.YtgiegokdcmkfeaaGreatDoor
open Go Go.Vx
set_option maxRecDepth 20000
theorem parse1_s (c r n : Int) (l : List Cell) : Ctr Tryz.prog 42 [(.v (.int .i64 n)), .pt false [(.v (.int .i64 c)), (.v (.int .i64 r)), .sl false 4 (l.map eC)]] (fun rr => rr = ⟨(.v (.bool (decide (n ≠ c)))), []⟩) := by
 refine Ctr.of (rs := [.tmp 3]) Tok true Tryz.func42 rfl rfl rfl rfl (by simp [ofDL]) (fun w0 kp => ?_)
 simp only [↓sx0, sxE, encs, sevalprocAttr]
 refine EndW.fn ?_ ?_ <;> simp only [sx4, encs, kpLL_map, sxR, sevalprocAttr] <;> (try simp) <;> (try omega)
theorem indexW_s (b : Bool) (c r : Int) (cl : List Cell) (l : List Int) (hl : l.length ≤ 1000000000) : Ctr Tryz.prog 82 [.sl b 1 (l.map eI), .clo 42 [.pt false [(.v (.int .i64 c)), (.v (.int .i64 r)), .sl false 4 (cl.map eC)]]] (fun rr => rr = ⟨(.v (.int .i64 (ixS (fun n => !decide (n = c)) l))), []⟩) := by
 refine Ctr.of (rs := [.tmp 4]) Tok true Tryz.func82 rfl rfl rfl rfl (by simp [ofDL]) (fun w0 kp => ?_)
 simp only [↓sx0, sxE, encs, sevalprocAttr]
 refine LoopW.comp [0, 1, 7, 8] (by simp only [sx2, encs, sxR, sevalprocAttr] <;> (try simp) <;> (try omega)) ?_
 simp only [sx2, sxR, sevalprocAttr]
 refine LoopW.up Tok (fun k : Nat => [(8, (.v (.int .i64 k)))]) (fun k => []) (fun k => []) (fun k => []) (fun k => k ≤ l.length ∧ ∀ x ∈ l.take k, (!decide (x = c)) = false) (fun k => l.length - k) (0) (by simp only [sx2, encs, sxR, sevalprocAttr] <;> (try simp) <;> (try omega)) ?_ ?_
 ·exact ⟨by omega, by simp⟩
 rintro k ⟨hk, hp⟩
 simp only [↓sx0, sxE, encs, sevalprocAttr]
 refine BrW.dec (fun hlt => ?_) (fun hlt => ?_)
 ·simp only [↓sx0, sxE, encs, sevalprocAttr]
  have hk2 : k < l.length := by omega
  refine IxW.nat hk2 ?_
  simp only [↓sx0, sxE, encs, sevalprocAttr]
  refine CallI.fn (parse1_s c r l[k] cl) (by simp only [sx3, encs, sxR, sevalprocAttr] <;> (try simp) <;> (try rfl)) ?_
  simp only [↓sx0, sxE, encs, sevalprocAttr]
  refine BrW.dec (fun hb => ?_) (fun hb => ?_)
  ·simp only [↓sx0, sxE, encs, sevalprocAttr]
   refine EndW.fn ?_ ?_ <;> simp only [sx4, encs, kpLL_map, sxR, sevalprocAttr] <;> (try simp [ixS_at (p := fun n => !decide (n = c)) hk2 hp (by simpa using hb)]) <;> (try omega)
  ·simp only [↓sx0, sxE, encs, sevalprocAttr]
   (with_reducible refine Vc.go ?_ fun _ => ?_); focus (first | omega | (simp only [InK]; omega) | (simp [InK]; done) | (simp [InK]; omega))
   simp only [↓sx0, sxE, encs, sevalprocAttr]
   refine ⟨k + 1, StLe.auto (by simp only [sx2, encs, sxR, sevalprocAttr] <;> (try simp) <;> (try omega)), ?_, ?_⟩
   ·refine ⟨hk2, fun x hx => ?_⟩
    rw [List.take_succ_eq_append_getElem hk2, List.mem_append, List.mem_singleton] at hx
    rcases hx with hx | rfl
    ·exact hp x hx
    ·simpa using hb
   ·omega
 ·simp only [↓sx0, sxE, encs, sevalprocAttr]
  have hke : k = l.length := by omega
  subst hke
  rw [List.take_length] at hp
  refine EndW.fn ?_ ?_ <;> simp only [sx4, encs, kpLL_map, sxR, sevalprocAttr] <;> (try simp [ixS_no (p := fun n => !decide (n = c)) hp]) <;> (try omega)
theorem containsW_s (b : Bool) (c r : Int) (cl : List Cell) (l : List Int) (hl : l.length ≤ 1000000000) : Ctr Tryz.prog 41 [.sl b 1 (l.map eI), .clo 42 [.pt false [(.v (.int .i64 c)), (.v (.int .i64 r)), .sl false 4 (cl.map eC)]]] (fun rr => rr = ⟨(.v (.bool (l.any fun n => !decide (n = c)))), []⟩) := by
 refine Ctr.of (rs := [.tmp 4]) Tok true Tryz.func41 rfl rfl rfl rfl (by simp [ofDL]) (fun w0 kp => ?_)
 simp only [↓sx0, sxE, encs, sevalprocAttr]
 refine CallI.fn (indexW_s b c r cl l hl) (by simp only [sx3, encs, sxR, sevalprocAttr] <;> (try simp) <;> (try rfl)) ?_
 simp only [↓sx0, sxE, encs, sevalprocAttr]
 refine EndW.fn ?_ ?_ <;> simp only [sx4, encs, kpLL_map, sxR, sevalprocAttr] <;> (try simp [ixS_any]) <;> (try omega)
/-- a head line. -/
def hedK (num : List UInt8 → Int × Bool) (w : List UInt8) : (Int × Int) × Bool :=
 match cutL 32 [] w with
 | [a, b] => if (num a).2 = true ∧ (num b).2 = true then (((num a).1, (num b).1), true) else ((0, 0), false)
 | _ => ((0, 0), false)
abbrev SchR := (Int × Int × List Cell) × Int × Int
def noneR (n e : Int) : SchR := ((0, 0, []), n, e)
/-- at the end of a text. -/
def finS (c r : Int) (cells : List Cell) (ws : List Int) : SchR :=
 if (ws.length : Int) ≠ r ∨ (ws.any fun n => !decide (n = c)) = true then noneR 0 10 else if (schS c r cells).2 = 0 then ((c, r, cells), 0, 0) else noneR 0 (schS c r cells).2
/-- lines of cells, from number i on. -/
def schL (num : List UInt8 → Int × Bool) (c r : Int) : Int → List Cell → List Int → List (List UInt8) → SchR
 | _, _, _, [] => noneR 0 0
 | i, cells, ws, [l] => if l = [] then finS c r cells ws else noneR i 7
 | i, cells, ws, p :: q :: ps => if (rowG num (cutL 32 [] p) []).2 = true then schL num c r (i + 1) (cells ++ (rowG num (cutL 32 [] p) []).1) (ws ++ [((rowG num (cutL 32 [] p) []).1.length : Int)]) (q :: ps) else noneR i 7
def schG (num : List UInt8 → Int × Bool) : List (List UInt8) → SchR
 | p :: q :: ps => if (hedK num p).2 = true then schL num (hedK num p).1.1 (hedK num p).1.2 2 [] [] (q :: ps) else noneR 1 7
 | _ => noneR 1 7
/-- what Parse answers. -/
def parS (num : List UInt8 → Int × Bool) (t : List UInt8) : SchR := if 60000 < t.length then noneR 0 8 else schG num (cutL 10 [] t)
/-- what stands behind so many right lines. -/
def stN (num : List UInt8 → Int × Bool) (ps : List (List UInt8)) : Nat → Int × Int × List Cell × List Int
 | 0 => (0, 0, [], [])
 | 1 => ((hedK num (ps.getD 0 [])).1.1, (hedK num (ps.getD 0 [])).1.2, [], [])
 | n + 2 => ((stN num ps (n + 1)).1, (stN num ps (n + 1)).2.1, (stN num ps (n + 1)).2.2.1 ++ (rowG num (cutL 32 [] (ps.getD (n + 1) [])) []).1, (stN num ps (n + 1)).2.2.2 ++ [((rowG num (cutL 32 [] (ps.getD (n + 1) [])) []).1.length : Int)])
def JS (num : List UInt8 → Int × Bool) (ps : List (List UInt8)) (n : Nat) : Prop :=
 n < ps.length ∧ (n = 0 ∨ schG num ps = schL num (stN num ps n).1 (stN num ps n).2.1 (n + 1) (stN num ps n).2.2.1 (stN num ps n).2.2.2 (ps.drop n)) ∧ (stN num ps n).2.2.1.length ≤ n * 100001 ∧ (stN num ps n).2.2.2.length ≤ n
theorem rowG_len (num : List UInt8 → Int × Bool) : ∀ (ws : List (List UInt8)) (acc : List Cell), (rowG num ws acc).1.length ≤ acc.length + ws.length
 | [], acc => by simp [rowG]
 | x :: xs, acc => by
  rw [rowG]
  split
  ·have := rowG_len num xs (acc ++ [(celK num x).1])
   simp only [List.length_append, List.length_cons, List.length_nil] at this ⊢; omega
  ·simp
end Go.Proofs.YtgiegokdcmkfeaaGreatDoor
/-
 Chapter 6, walks: a scheme read.
-/
namespace Go.Proofs.YtgiegokdcmkfeaaGreatDoor
open Go Go.Vx
set_option maxRecDepth 20000
theorem finL_get : ∀ {ps : List (List UInt8)} {n : Nat} {x : List UInt8}, (finL ps)[n]? = some x → ∃ p rest, ps.drop n = p :: rest ∧ ((rest = [] ∧ p ≠ [] ∧ x = p) ∨ (∃ q qs, rest = q :: qs ∧ x = p ++ [10]))
 | [], n, x, h => by simp [finL] at h
 | [l], n, x, h => by
  rw [finL] at h
  split at h
  ·simp at h
  ·rename_i hl
   cases n with
   | zero => simp at h; subst h; exact ⟨l, [], rfl, .inl ⟨rfl, hl, rfl⟩⟩
   | succ n => simp at h
 | p :: q :: ps, 0, x, h => by
  rw [finL] at h
  simp at h
  exact ⟨p, q :: ps, rfl, .inr ⟨q, ps, rfl, h.symm⟩⟩
 | p :: q :: ps, n + 1, x, h => by
  rw [finL] at h
  exact finL_get (ps := q :: ps) (n := n) (by simpa using h)
theorem finL_end : ∀ {ps : List (List UInt8)}, (finL ps).length < ps.length → ps.drop (finL ps).length = [[]]
 | [], h => by simp at h
 | [l], h => by
  by_cases hl : l = []
  ·subst hl; rfl
  ·rw [finL, if_neg hl] at h; simp at h
 | p :: q :: ps, h => by
  rw [finL] at h ⊢
  simp only [List.length_cons] at h ⊢
  exact finL_end (ps := q :: ps) (by simpa using h)
theorem cutL_not {c : UInt8} : ∀ {l acc w : List UInt8}, ¬ c ∈ acc → w ∈ cutL c acc l → ¬ c ∈ w
 | [], acc, w, ha, h => by
  simp only [cutL, List.mem_singleton] at h
  rw [h]; exact ha
 | b :: l, acc, w, ha, h => by
  rw [cutL] at h
  split at h
  ·rcases List.mem_cons.1 h with rfl | h
   ·exact ha
   ·exact cutL_not (by simp) h
  ·rename_i hb
   exact cutL_not (fun e => by
    rcases List.mem_append.1 e with e | e
    ·exact ha e
    ·simp at e; exact hb e.symm) h
theorem num4 (w : List UInt8) (hw : w.length ≤ 100000) : CtrK glob Tryz.prog 39 [(.v (.string (bs w))), (.v (.int .i64 4))] (fun rr => rr = ⟨.tup [(.v (.int .i64 ((n4P w).1))), (.v (.bool ((n4P w).2)))], []⟩) := by
 have h := number_s (bs w) 4 (by rw [bs_size]; omega) (by omega)
 rw [bs_toList] at h
 exact h
theorem numR_sp {w : List UInt8} (h : (32 : UInt8) ∈ w) (dg : Nat) (hd : dg ≤ 18) : (numP w dg).2 = false := by
 have h1 := (num_same w dg hd).1
 cases h2 : (numP w dg).2 with
 | false => rfl
 | true =>
  rw [h2] at h1
  have h3 := h1.symm
  exfalso
  unfold numR at h3
  split at h3
  ·rename_i hm
   obtain ⟨c, r, rfl⟩ : ∃ c r, w = c :: r := by cases w with
    | nil => simp at h
    | cons c r => exact ⟨c, r, rfl⟩
   simp at hm; subst hm
   have h4 : (32 : UInt8) ∈ r := by simpa using h
   simp only [List.tail_cons] at h3
   unfold numM at h3
   split at h3
   ·simp at h3
   ·split at h3
    ·rename_i ha
     rw [List.all_eq_true] at ha
     exact absurd (ha 32 h4) (by decide)
    ·simp at h3
  ·split at h3
   ·simp at h3
   ·split at h3
    ·rename_i ha
     rw [List.all_eq_true] at ha
     exact absurd (ha 32 h) (by decide)
    ·simp at h3
theorem cutS_any (p : List UInt8) (hp : p.length ≤ 100000) : ∃ A B bl, A.length ≤ p.length ∧ B.length ≤ p.length ∧ Ctr Tryz.prog 38 [(.v (.string (bs p))), (.v (.string (⟨#[32]⟩)))] (fun rr => rr = ⟨.tup [(.v (.string (bs A))), (.v (.string (bs B))), (.v (.bool (bl)))], []⟩) ∧
  hedK n4P p = if bl = true ∧ (n4P A).2 = true ∧ (n4P B).2 = true then (((n4P A).1, (n4P B).1), true) else ((0, 0), false) := by
 by_cases h : (32 : UInt8) ∈ p
 ·obtain ⟨A, B, rfl, hA⟩ := split_first h
  simp only [List.length_append, List.length_cons] at hp
  refine ⟨A, B, true, by simp, by simp; omega, cutS_hit A B 32 hA (by omega), ?_⟩
  unfold hedK
  rw [cut1_hit hA]
  by_cases hB : (32 : UInt8) ∈ B
  ·have h1 : (n4P B).2 = false := numR_sp hB 4 (by omega)
   obtain ⟨A2, B2, rfl, hA2⟩ := split_first hB
   rw [cut1_hit hA2]
   obtain ⟨q, qs, hq⟩ := cutL_ne 32 B2 []
   rw [hq]
   simp [h1]
  ·rw [cut1_miss hB]
   simp
 ·refine ⟨p, [], false, Nat.le_refl _, by simp, cutS_miss p 32 h, ?_⟩
  unfold hedK
  rw [cut1_miss h]
  simp
end Go.Proofs.YtgiegokdcmkfeaaGreatDoor
/-
 Chapter 6, walks: a scheme read (the program).
-/
namespace Go.Proofs.YtgiegokdcmkfeaaGreatDoor
open Go Go.Vx
set_option maxRecDepth 20000
/-- a line, ended or not. -/
theorem cutSuf_any {ps : List (List UInt8)} {n : Nat} {x : List UInt8} (h : (finL ps)[n]? = some x) (hp : ∀ w ∈ ps, w.length ≤ 1000 ∧ ¬ (10 : UInt8) ∈ w) : ∃ p rest e, ps.drop n = p :: rest ∧ p.length ≤ 1000 ∧ Ctr Tryz.prog 37 [(.v (.string (bs x))), (.v (.string (⟨#[10]⟩)))] (fun rr => rr = ⟨.tup [(.v (.string (bs p))), (.v (.bool (e)))], []⟩) ∧ ((e = false ∧ rest = [] ∧ p ≠ []) ∨ (e = true ∧ ∃ q qs, rest = q :: qs)) := by
 obtain ⟨p, rest, hd, hc⟩ := finL_get h
 have hpm : p ∈ ps := List.mem_of_mem_drop (i := n) (by rw [hd]; simp)
 obtain ⟨h1, h2⟩ := hp p hpm
 rcases hc with ⟨rfl, h3, rfl⟩ | ⟨q, qs, rfl, rfl⟩
 ·exact ⟨x, [], false, hd, h1, cutSuf_no x h3 h2 (by omega), .inl ⟨rfl, rfl, h3⟩⟩
 ·exact ⟨p, q :: qs, true, hd, h1, cutSuf_yes p (by omega), .inr ⟨rfl, q, qs, rfl⟩⟩
theorem schG_one (num : List UInt8 → Int × Bool) (p : List UInt8) : schG num [p] = noneR 1 7 := rfl
theorem stN_0 (num : List UInt8 → Int × Bool) (ps : List (List UInt8)) : stN num ps 0 = (0, 0, [], []) := rfl
set_option maxHeartbeats 16000000 in
theorem parseS_s (s : List UInt8) (hs : (s.length ≤ 60000 ∧ ∀ w ∈ cutL 10 [] s, w.length ≤ 1000) ∨ 60000 < s.length ∧ s.length ≤ 1000000) : CtrK glob Tryz.prog 10 [(.v (.string (bs s)))] (fun rr => rr = ⟨.tup [.agg [(.v (.int .i64 ((parS n4P s).1.1))), (.v (.int .i64 ((parS n4P s).1.2.1))), .sl true 4 ((parS n4P s).1.2.2.map eC)], (.v (.int .i64 ((parS n4P s).2.1))), (.v (.int .i64 ((parS n4P s).2.2)))], []⟩) := by
 have hsz := bs_size s
 have encs := And.intro encs (And.intro lnY_def sxFb)
 refine CtrK.of (rs := [.cell 2 29, .cell 3 3, .cell 4 30]) Tok true Tryz.func10 rfl rfl rfl rfl (by simp [ofDL]) (fun w0 kp hgl => ?_)
 simp only [↓sx0, sxE, encs, sevalprocAttr]
 refine BrW.dec (fun hbig => ?_) (fun hbig => ?_)
 ·rw [show parS n4P s = noneR 0 8 by rw [parS, if_pos (by omega)]]
  simp only [↓sx0, sxE, encs, sevalprocAttr]
  refine EndW.fn ?_ ?_ <;> simp only [sx4, encs, kpLL_map, sxR, sevalprocAttr] <;> (try simp [noneR]) <;> (try omega)
 ·have hs : s.length ≤ 60000 ∧ ∀ w ∈ cutL 10 [] s, w.length ≤ 1000 := by
   rcases hs with hs | hs
   ·exact hs
   ·omega
  obtain ⟨hs, hs2⟩ := hs
  rw [show parS n4P s = schG n4P (cutL 10 [] s) by rw [parS, if_neg (by omega)]]
  simp only [↓sx0, sxE, encs, sevalprocAttr]
  refine CallI.inl (rs := [.tmp 2]) Tok Tryz.func36 rfl rfl rfl rfl (by simp) (fun ρ σ μ fr lp => ?_)
  simp only [↓sx0, sxE, encs, sevalprocAttr]
  have hit := linesIt_s s (by omega)
  obtain ⟨ps, hps⟩ : ∃ ps, ps = cutL 10 [] s := ⟨_, rfl⟩
  have hln : ∀ w ∈ ps, w.length ≤ 1000 ∧ ¬ (10 : UInt8) ∈ w := fun w hw => by
   rw [hps] at hw
   exact ⟨hs2 w hw, cutL_not (by simp) hw⟩
  have hlns : lnsL s = finL ps := by rw [lnsL, hps]
  have hpl : ps.length ≤ s.length + 1 := by rw [hps, cutL_len]; have := List.count_le_length (a := (10 : UInt8)) (l := s); omega
  have hpn : 0 < ps.length := by rw [hps, cutL_len]; omega
  rw [← hps]
  rw [hlns] at hit
  have encs := And.intro encs (stN_0 n4P ps)
  refine RangeW.itB (k := 7) rfl Tok (fun _ => rfl) (fun hro => by first | rfl | exact (by rw [hro] at *; contradiction)) hit [(2, .box 0 0), (3, .box 1 0), (4, .box 2 0), (5, .box 3 0), (6, .box 4 0), (7, .box 5 0), (8, .box 6 0), (26, .clo 74 [.box 7 0])]
   [some ⟨29, [(.v (.int .i64 0)), (.v (.int .i64 0)), .v (.slice none 0 0)]⟩, some ⟨3, [(.v (.int .i64 0))]⟩, some ⟨30, [(.v (.int .i64 0))]⟩, some ⟨29, [(.v (.int .i64 0)), (.v (.int .i64 0)), .v (.slice none 0 0)]⟩, some ⟨29, [(.v (.int .i64 0)), (.v (.int .i64 0)), .row 0]⟩, some ⟨96, [.row 1]⟩, some ⟨3, [(.v (.int .i64 0))]⟩, some ⟨9, [(.v (.string (bs s)))]⟩]
   (fun ys => [some ⟨29, [(.v (.int .i64 0)), (.v (.int .i64 0)), .v (.slice none 0 0)]⟩, some ⟨3, [(.v (.int .i64 0))]⟩, some ⟨30, [(.v (.int .i64 0))]⟩, some ⟨29, [(.v (.int .i64 0)), (.v (.int .i64 0)), .v (.slice none 0 0)]⟩, some ⟨29, [(.v (.int .i64 ((stN n4P ps ys.length).1))), (.v (.int .i64 ((stN n4P ps ys.length).2.1))), .row 0]⟩, some ⟨96, [.row 1]⟩, some ⟨3, [(.v (.int .i64 ((ys.length : Int))))]⟩, none])
   (fun ys => [.own 63 4 ((stN n4P ps ys.length).2.2.1.map eC), .own 3 1 ((stN n4P ps ys.length).2.2.2.map eI)]) (fun ys => JS n4P ps ys.length) ⟨hpn, .inl rfl, by simp [stN], by simp [stN]⟩ (by simp only [sx2, encs, sxR, sevalprocAttr] <;> (try simp) <;> (try omega)) rfl rfl rfl (by simp only [sx2, encs, sxR, List.length_nil] <;> rfl) rfl (by simp [lnY]) ?_ (fun hJall => ?_)
  ·rintro pre d hpre ⟨hn, hJ, hb1, hb2⟩ ρ σ μ ho' hy hs'
   obtain ⟨yd', ro, mks, fr, lp, sz⟩ := ho'
   obtain ⟨qq, hq⟩ := hpre
   have hget : ((finL ps).map lnY)[pre.length]? = some d := by rw [← hq]; simp
   rw [List.getElem?_map] at hget
   obtain ⟨x, hx, rfl⟩ := Option.map_eq_some_iff.1 hget
   obtain ⟨p, rest, e, hdr, hp1, cS, hc⟩ := cutSuf_any hx hln
   have hlen : (pre ++ [lnY x]).length = pre.length + 1 := by simp
   rw [hlen]
   generalize hnn : pre.length = n at *
   have hgd : ps.getD n [] = p := by
    have := congrArg (fun l => l[0]?) hdr
    simp at this
    rw [List.getD_eq_getElem?_getD, this]; rfl
   rw [lnY_def]
   simp only [↓sx0, sxE, encs, sevalprocAttr]
   intro fr' hfr
   repeat ((with_reducible refine Vc.go ?_ fun _ => ?_); (focus (first | omega | (simp only [InK]; omega) | (simp [InK]; done) | (simp [InK]; omega))); simp only [↓sx0, sxE, encs, sevalprocAttr])
   refine CallI.fn (cS) (by simp only [sx3, encs, sxR, sevalprocAttr] <;> (try simp) <;> (try rfl)) ?_
   simp only [↓sx0, sxE, encs, sevalprocAttr]
   rcases Nat.eq_zero_or_pos n with h0 | hpos
   ·subst h0
    obtain ⟨A, B, bl, lA, lB, cC, hhd⟩ := cutS_any p (by omega)
    have cA := num4 A (by omega)
    have cB := num4 B (by omega)
    have h1 : stN n4P ps 1 = ((hedK n4P p).1.1, (hedK n4P p).1.2, [], []) := by rw [stN, hgd]
    have hps0 : ps = p :: rest := by simpa using hdr
    have hG : schG n4P ps = schG n4P (p :: rest) := by rw [← hps0]
    rw [h1]
    generalize n4P A = na at *
    generalize n4P B = nb at *
    refine BrW.yes (by simp) ?_
    simp only [↓sx0, sxE, encs, sevalprocAttr]
    refine CallI.fn (cC) (by simp only [sx3, encs, sxR, sevalprocAttr] <;> (try simp) <;> (try rfl)) ?_
    simp only [↓sx0, sxE, encs, sevalprocAttr]
    refine CallI.fnKI (cA) glob_ok hgl rfl hfr (by simp only [sx3, encs, sxR, sevalprocAttr] <;> (try simp) <;> (try rfl)) ?_
    simp only [↓sx0, sxE, encs, sevalprocAttr]
    rcases hc with ⟨rfl, rfl, hpne⟩ | ⟨rfl, q, qs, rfl⟩
    ·rw [hG, schG_one]
     simp only [↓sx0, sxE, encs, sevalprocAttr]
     refine CallI.fnKI (cB) glob_ok hgl rfl hfr (by simp only [sx3, encs, sxR, sevalprocAttr] <;> (try simp) <;> (try rfl)) ?_
     simp only [↓sx0, sxE, encs, sevalprocAttr]
     (try repeat ((with_reducible refine Vc.go ?_ fun _ => ?_); (focus (first | omega | (simp only [InK]; omega) | (simp [InK]; done) | (simp [InK]; omega))); simp only [↓sx0, sxE, encs, sevalprocAttr]))
     refine DrawW.plan Tok mixed (.q 0 <| .q 1 <| .e 2 [1] <| .e 3 [] <| .e 4 [] <| .done) (by kernel_rfl) (by kernel_rfl) ?_
     simp only [↓sx0, sxE, encs, sevalprocAttr]
     (try repeat ((with_reducible refine Vc.go ?_ fun _ => ?_); (focus (first | omega | (simp only [InK]; omega) | (simp [InK]; done) | (simp [InK]; omega))); simp only [↓sx0, sxE, encs, sevalprocAttr]))
     refine EndW.fn ?_ ?_ <;> simp only [sx4, encs, kpLL_map, sxR, sevalprocAttr] <;> (try simp [noneR]) <;> (try omega)
    ·rw [schG] at hG
     simp only [↓sx0, sxE, encs, sevalprocAttr]
     refine BrW.of (fun h2 => ?_) (fun h2 => ?_)
     ·simp only [↓sx0, sxE, encs, sevalprocAttr]
      refine CallI.fnKI (cB) glob_ok hgl rfl hfr (by simp only [sx3, encs, sxR, sevalprocAttr] <;> (try simp) <;> (try rfl)) ?_
      simp only [↓sx0, sxE, encs, sevalprocAttr]
      refine BrW.of (fun h3 => ?_) (fun h3 => ?_)
      ·simp only [↓sx0, sxE, encs, sevalprocAttr]
       refine BrW.of (fun h4 => ?_) (fun h4 => ?_)
       ·have hhe : hedK n4P p = ((na.1, nb.1), true) := by rw [hhd, if_pos ⟨h2, h3, h4⟩]
        rw [hhe] at hG h1 ⊢
        simp only [↓sx0, sxE, encs, sevalprocAttr]
        refine ⟨⟨?_, .inr ?_, ?_, ?_⟩, ?_⟩
        ·have := congrArg List.length hps0
         simp at this; omega
        ·rw [hG, if_pos rfl, h1, hps0]; rfl
        ·rw [h1]; simp
        ·rw [h1]; simp
        ·simp only [sx2, encs, sxR, sevalprocAttr] <;> (try simp) <;> (try omega)
       ·have hz : (hedK n4P p).2 = false := by rw [hhd, if_neg (by simp [h4])]
        rw [if_neg (by simp [hz])] at hG
        rw [hG]
        simp only [↓sx0, sxE, encs, sevalprocAttr]
        (try repeat ((with_reducible refine Vc.go ?_ fun _ => ?_); (focus (first | omega | (simp only [InK]; omega) | (simp [InK]; done) | (simp [InK]; omega))); simp only [↓sx0, sxE, encs, sevalprocAttr]))
        refine DrawW.plan Tok mixed (.q 0 <| .q 1 <| .e 2 [1] <| .e 3 [] <| .e 4 [] <| .done) (by kernel_rfl) (by kernel_rfl) ?_
        simp only [↓sx0, sxE, encs, sevalprocAttr]
        (try repeat ((with_reducible refine Vc.go ?_ fun _ => ?_); (focus (first | omega | (simp only [InK]; omega) | (simp [InK]; done) | (simp [InK]; omega))); simp only [↓sx0, sxE, encs, sevalprocAttr]))
        refine EndW.fn ?_ ?_ <;> simp only [sx4, encs, kpLL_map, sxR, sevalprocAttr] <;> (try simp [noneR]) <;> (try omega)
      ·have hz : (hedK n4P p).2 = false := by rw [hhd, if_neg (by simp [h3])]
       rw [if_neg (by simp [hz])] at hG
       rw [hG]
       simp only [↓sx0, sxE, encs, sevalprocAttr]
       (try repeat ((with_reducible refine Vc.go ?_ fun _ => ?_); (focus (first | omega | (simp only [InK]; omega) | (simp [InK]; done) | (simp [InK]; omega))); simp only [↓sx0, sxE, encs, sevalprocAttr]))
       refine DrawW.plan Tok mixed (.q 0 <| .q 1 <| .e 2 [1] <| .e 3 [] <| .e 4 [] <| .done) (by kernel_rfl) (by kernel_rfl) ?_
       simp only [↓sx0, sxE, encs, sevalprocAttr]
       (try repeat ((with_reducible refine Vc.go ?_ fun _ => ?_); (focus (first | omega | (simp only [InK]; omega) | (simp [InK]; done) | (simp [InK]; omega))); simp only [↓sx0, sxE, encs, sevalprocAttr]))
       refine EndW.fn ?_ ?_ <;> simp only [sx4, encs, kpLL_map, sxR, sevalprocAttr] <;> (try simp [noneR]) <;> (try omega)
     ·have hz : (hedK n4P p).2 = false := by rw [hhd, if_neg (by simp [h2])]
      rw [if_neg (by simp [hz])] at hG
      rw [hG]
      simp only [↓sx0, sxE, encs, sevalprocAttr]
      refine CallI.fnKI (cB) glob_ok hgl rfl hfr (by simp only [sx3, encs, sxR, sevalprocAttr] <;> (try simp) <;> (try rfl)) ?_
      simp only [↓sx0, sxE, encs, sevalprocAttr]
      (try repeat ((with_reducible refine Vc.go ?_ fun _ => ?_); (focus (first | omega | (simp only [InK]; omega) | (simp [InK]; done) | (simp [InK]; omega))); simp only [↓sx0, sxE, encs, sevalprocAttr]))
      refine DrawW.plan Tok mixed (.q 0 <| .q 1 <| .e 2 [1] <| .e 3 [] <| .e 4 [] <| .done) (by kernel_rfl) (by kernel_rfl) ?_
      simp only [↓sx0, sxE, encs, sevalprocAttr]
      (try repeat ((with_reducible refine Vc.go ?_ fun _ => ?_); (focus (first | omega | (simp only [InK]; omega) | (simp [InK]; done) | (simp [InK]; omega))); simp only [↓sx0, sxE, encs, sevalprocAttr]))
      refine EndW.fn ?_ ?_ <;> simp only [sx4, encs, kpLL_map, sxR, sevalprocAttr] <;> (try simp [noneR]) <;> (try omega)
   ·obtain ⟨m, rfl⟩ : ∃ m, n = m + 1 := ⟨n - 1, by omega⟩
    have cR := rowOf_s p (by omega)
    have hrl := rowG_len n4P (cutL 32 [] p) []
    have hcl := cutL_len 32 p []
    have hcc := List.count_le_length (a := (32 : UInt8)) (l := p)
    have hst2 : stN n4P ps (m + 1 + 1) = ((stN n4P ps (m + 1)).1, (stN n4P ps (m + 1)).2.1, (stN n4P ps (m + 1)).2.2.1 ++ (rowG n4P (cutL 32 [] p) []).1, (stN n4P ps (m + 1)).2.2.2 ++ [((rowG n4P (cutL 32 [] p) []).1.length : Int)]) := by
     rw [stN, hgd]
    have hJ' : schG n4P ps = schL n4P (stN n4P ps (m + 1)).1 (stN n4P ps (m + 1)).2.1 ((m + 1 : Nat) + 1) (stN n4P ps (m + 1)).2.2.1 (stN n4P ps (m + 1)).2.2.2 (p :: rest) := by
     rcases hJ with h | h
     ·omega
     ·rw [h, hdr]
    rw [hst2]
    have hrl2 : (rowG n4P (cutL 32 [] p) []).1.length ≤ 1001 := by simp only [List.length_nil] at hrl; omega
    clear hrl
    rcases hc with ⟨rfl, rfl, hpne⟩ | ⟨rfl, q, qs, rfl⟩
    ·rw [schL, if_neg hpne] at hJ'
     rw [hJ']
     generalize rowG n4P (cutL 32 [] p) [] = rg at *
     generalize stN n4P ps (m + 1) = st at *
     refine BrW.no (by omega) ?_
     simp only [↓sx0, sxE, encs, sevalprocAttr]
     refine CallI.fnKI (cR) glob_ok hgl rfl hfr (by simp only [sx3, encs, sxR, sevalprocAttr] <;> (try simp) <;> (try rfl)) ?_
     simp only [↓sx0, sxE, encs, sevalprocAttr]
     refine DrawW.plan Tok mixed (.q 0 <| .q 1 <| .q 2 <| .q 4 <| .q 5 <| .q 6 <| .e2 3 [4] (.q 9 <| .e 7 [1, 4] <| .e 8 [] <| .e 10 [] <| .e 11 [] <| .done) 7 [1, 4] (.e 3 [4] <| .q 9 <| .e 8 [] <| .e 10 [] <| .e 11 [] <| .done)) (by kernel_rfl) (by kernel_rfl) ?_
     simp only [↓sx0, sxE, encs, sevalprocAttr]
     refine ⟨?_, ?_⟩
     all_goals (
      skip
      repeat ((with_reducible refine Vc.go ?_ fun _ => ?_); (focus (first | omega | (simp only [InK]; omega) | (simp [InK]; done) | (simp [InK]; omega))); simp only [↓sx0, sxE, encs, sevalprocAttr])
      refine DrawW.plan Tok mixed (.q 0 <| .q 1 <| .e 2 [1] <| .e 3 [] <| .e 4 [] <| .done) (by kernel_rfl) (by kernel_rfl) ?_
      simp only [↓sx0, sxE, encs, sevalprocAttr]
      (try repeat ((with_reducible refine Vc.go ?_ fun _ => ?_); (focus (first | omega | (simp only [InK]; omega) | (simp [InK]; done) | (simp [InK]; omega))); simp only [↓sx0, sxE, encs, sevalprocAttr]))
      refine EndW.fn ?_ ?_ <;> simp only [sx4, encs, kpLL_map, sxR, sevalprocAttr] <;> (try simp [noneR]) <;> (try omega))
    ·rw [schL] at hJ'
     generalize rowG n4P (cutL 32 [] p) [] = rg at *
     generalize stN n4P ps (m + 1) = st at *
     refine BrW.no (by omega) ?_
     simp only [↓sx0, sxE, encs, sevalprocAttr]
     refine CallI.fnKI (cR) glob_ok hgl rfl hfr (by simp only [sx3, encs, sxR, sevalprocAttr] <;> (try simp) <;> (try rfl)) ?_
     simp only [↓sx0, sxE, encs, sevalprocAttr]
     refine DrawW.plan Tok mixed (.q 0 <| .q 1 <| .q 2 <| .q 4 <| .q 5 <| .q 6 <| .e2 3 [4] (.q 9 <| .e 7 [1, 4] <| .e 8 [] <| .e 10 [] <| .e 11 [] <| .done) 7 [1, 4] (.e 3 [4] <| .q 9 <| .e 8 [] <| .e 10 [] <| .e 11 [] <| .done)) (by kernel_rfl) (by kernel_rfl) ?_
     simp only [↓sx0, sxE, encs, sevalprocAttr]
     refine ⟨?_, ?_⟩
     all_goals (
      skip
      repeat ((with_reducible refine Vc.go ?_ fun _ => ?_); (focus (first | omega | (simp only [InK]; omega) | (simp [InK]; done) | (simp [InK]; omega))); simp only [↓sx0, sxE, encs, sevalprocAttr])
      refine BrW.of (fun h2 => ?_) (fun h2 => ?_)
      ·rw [if_pos h2] at hJ'
       simp only [↓sx0, sxE, encs, sevalprocAttr]
       refine ⟨⟨?_, .inr ?_, ?_, ?_⟩, ?_⟩
       ·have := congrArg List.length hdr
        simp at this; omega
       ·rw [hJ', ← List.drop_drop, hdr, hst2]; rfl
       ·rw [hst2]; simp; omega
       ·rw [hst2]; simp; omega
       ·simp only [sx2, encs, sxR, sevalprocAttr] <;> (try simp) <;> (try omega)
        rfl
      ·rw [if_neg (by simp [h2])] at hJ'
       rw [hJ']
       simp only [↓sx0, sxE, encs, sevalprocAttr]
       refine DrawW.plan Tok mixed (.q 0 <| .q 1 <| .e 2 [1] <| .e 3 [] <| .e 4 [] <| .done) (by kernel_rfl) (by kernel_rfl) ?_
       simp only [↓sx0, sxE, encs, sevalprocAttr]
       (try repeat ((with_reducible refine Vc.go ?_ fun _ => ?_); (focus (first | omega | (simp only [InK]; omega) | (simp [InK]; done) | (simp [InK]; omega))); simp only [↓sx0, sxE, encs, sevalprocAttr]))
       refine EndW.fn ?_ ?_ <;> simp only [sx4, encs, kpLL_map, sxR, sevalprocAttr] <;> (try simp [noneR]) <;> (try omega))
  ·obtain ⟨hn, hJ, hb1, hb2⟩ := hJall
   rw [List.length_map] at hn hJ hb1 hb2 ⊢
   have hend := finL_end hn
   generalize hnn : (finL ps).length = n at *
   rcases Nat.eq_zero_or_pos n with h0 | hpos
   ·subst h0
    have hps0 : ps = [[]] := by simpa using hend
    rw [hps0, schG_one]
    simp only [↓sx0, sxE, encs, sevalprocAttr]
    refine EndW.fn ?_ ?_ <;> simp only [sx4, encs, kpLL_map, sxR, sevalprocAttr] <;> (try simp [noneR]) <;> (try omega)
   ·have hJ' : schG n4P ps = finS (stN n4P ps n).1 (stN n4P ps n).2.1 (stN n4P ps n).2.2.1 (stN n4P ps n).2.2.2 := by
     rcases hJ with h | h
     ·omega
     ·rw [h, hend, schL, if_pos rfl]
    rw [hJ']
    generalize stN n4P ps n = st at *
    obtain ⟨c, r, cells, ws⟩ := st
    simp only at hb1 hb2 ⊢
    simp only [↓sx0, sxE, encs, sevalprocAttr]
    refine BrW.no (by omega) ?_
    simp only [↓sx0, sxE, encs, sevalprocAttr]
    by_cases hw : (ws.length : Int) = r
    ·refine BrW.no (by simpa using hw) ?_
     simp only [↓sx0, sxE, encs, sevalprocAttr]
     refine CallI.fn (containsW_s false c r cells ws (by omega)) (by simp only [sx3, encs, sxR, sevalprocAttr] <;> (try simp) <;> (try rfl)) ?_
     simp only [↓sx0, sxE, encs, sevalprocAttr]
     refine BrW.of (fun h2 => ?_) (fun h2 => ?_)
     ·rw [finS, if_pos (.inr h2)]
      simp only [↓sx0, sxE, encs, sevalprocAttr]
      refine EndW.fn ?_ ?_ <;> simp only [sx4, encs, kpLL_map, sxR, sevalprocAttr] <;> (try simp [noneR]) <;> (try omega)
     ·rw [finS, if_neg (by simp [hw, h2])]
      simp only [↓sx0, sxE, encs, sevalprocAttr]
      refine CallI.fn (check_s false c r cells) (by simp only [sx3, encs, sxR, sevalprocAttr] <;> (try simp) <;> (try rfl)) ?_
      simp only [↓sx0, sxE, encs, sevalprocAttr]
      refine BrW.dec (fun he => ?_) (fun he => ?_)
      ·rw [if_neg he]
       simp only [↓sx0, sxE, encs, sevalprocAttr]
       refine EndW.fn ?_ ?_ <;> simp only [sx4, encs, kpLL_map, sxR, sevalprocAttr] <;> (try simp [noneR]) <;> (try omega)
      ·rw [if_pos (Decidable.not_not.1 he)]
       simp only [↓sx0, sxE, encs, sevalprocAttr]
       refine EndW.fn ?_ ?_ <;> simp only [sx4, encs, kpLL_map, sxR, sevalprocAttr] <;> (try simp) <;> (try omega)
    ·refine BrW.yes hw ?_
     rw [finS, if_pos (.inl hw)]
     simp only [↓sx0, sxE, encs, sevalprocAttr]
     refine EndW.fn ?_ ?_ <;> simp only [sx4, encs, kpLL_map, sxR, sevalprocAttr] <;> (try simp [noneR]) <;> (try omega)
end Go.Proofs.YtgiegokdcmkfeaaGreatDoor
