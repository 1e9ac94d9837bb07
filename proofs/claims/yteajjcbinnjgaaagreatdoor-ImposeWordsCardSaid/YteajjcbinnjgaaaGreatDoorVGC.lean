/-
 Chapter 6, walks: comparing and copying.
-/
import Derived.Test.YteajjcbinnjgaaaGreatDoorVB6
import Derived.Test.YteajjcbinnjgaaaGreatDoorVRev
import Derived.Test.YteajjcbinnjgaaaGreatDoorVGA
import Derived.Test.YteajjcbinnjgaaaGreatDoorVGB
namespace Go.Proofs.YteajjcbinnjgaaaGreatDoor
open Go Go.Vx
set_option linter.unusedSimpArgs false
set_option maxRecDepth 20000
theorem ranges_s (b b' : Bool) (l m : List Rng) (hl : l.length ≤ 1000000000) : Ctr Tryz.prog 25 [.sl b 2 (l.map eR), .sl b' 2 (m.map eR)] (fun rr => rr = ⟨(.v (.bool (decide (l = m)))), []⟩) := by
 refine Ctr.of (rs := [.tmp 4]) Tok true Tryz.func25 rfl rfl rfl rfl (by simp [ofDL]) (fun w0 kp => ?_)
 simp only [↓sx0, sxE, encs, sevalprocAttr]
 refine BrW.dec (fun hn => ?_) (fun hn => ?_)
 ·simp only [↓sx0, sxE, encs, sevalprocAttr]
  have : ¬ l = m := fun h => hn (by rw [h])
  refine EndW.fn ?_ ?_ <;> simp only [sx4, encs, kpLL_map, sxR, sevalprocAttr] <;> (try simp [this]) <;> (try omega)
 ·simp only [↓sx0, sxE, encs, sevalprocAttr]
  have hn2 : l.length = m.length := by omega
  refine LoopW.comp [0, 1, 5] (by simp only [sx2, encs, sxR, sevalprocAttr] <;> (try simp) <;> (try omega)) ?_
  simp only [sx2, sxR, sevalprocAttr]
  refine LoopW.up Tok (fun k : Nat => [(5, (.v (.int .i64 k)))]) (fun k => []) (fun k => []) (fun k => []) (fun k => k ≤ l.length ∧ l.take k = m.take k) (fun k => l.length - k) (0) (by simp only [sx2, encs, sxR, sevalprocAttr] <;> (try simp) <;> (try omega)) ?_ ?_
  ·exact ⟨by omega, by simp⟩
  rintro k ⟨hk, ht⟩
  simp only [↓sx0, sxE, encs, sevalprocAttr]
  refine BrW.dec (fun hlt => ?_) (fun hlt => ?_)
  ·simp only [↓sx0, sxE, encs, sevalprocAttr]
   have h1 : k < l.length := by omega
   have h2 : k < m.length := by omega
   refine DrawW.plan Tok mixed (.q 0 <| .q 1 <| .q 2 <| .q 3 <| .q 4 <| .q 5 <| .q 6 <| .q 7 <| .q 8 <| .done) (by kernel_rfl) (by kernel_rfl) ?_
   simp only [↓sx0, sxE, encs, sevalprocAttr]
   refine IxW.nat h1 ?_
   simp only [↓sx0, sxE, encs, sevalprocAttr]
   refine IxW.nat h2 ?_
   simp only [↓sx0, sxE, encs, sevalprocAttr]
   refine BrW.dec (fun hne => ?_) (fun hne => ?_)
   ·simp only [↓sx0, sxE, encs, sevalprocAttr]
    have : ¬ l = m := fun h => hne (by subst h; rfl)
    refine EndW.fn ?_ ?_ <;> simp only [sx4, encs, kpLL_map, sxR, sevalprocAttr] <;> (try simp [this]) <;> (try omega)
   ·simp only [↓sx0, sxE, encs, sevalprocAttr]
    have he : l[k] = m[k] := by rw [eR_inj] at hne; exact Decidable.not_not.1 hne
    (with_reducible refine Vc.go ?_ fun _ => ?_); focus (first | omega | (simp only [InK]; omega) | (simp [InK]; done) | (simp [InK]; omega))
    simp only [↓sx0, sxE, encs, sevalprocAttr]
    refine ⟨k + 1, StLe.auto (by simp only [sx2, encs, sxR, sevalprocAttr] <;> (try simp) <;> (try omega)), ?_, ?_⟩
    ·exact ⟨h1, take_eq_succ h1 h2 ht he⟩
    ·omega
  ·simp only [↓sx0, sxE, encs, sevalprocAttr]
   have hke : k = l.length := by omega
   subst hke
   rw [List.take_length, hn2, List.take_length] at ht
   refine EndW.fn ?_ ?_ <;> simp only [sx4, encs, kpLL_map, sxR, sevalprocAttr] <;> (try simp [ht]) <;> (try omega)
theorem sameFolds_s (b b' : Bool) (l m : List Fold) (hl : l.length ≤ 1000000000) : Ctr Tryz.prog 11 [.sl b 2 (l.map eF), .sl b' 2 (m.map eF)] (fun rr => rr = ⟨(.v (.bool (decide (l = m)))), []⟩) := by
 refine Ctr.of (rs := [.tmp 4]) Tok true Tryz.func11 rfl rfl rfl rfl (by simp [ofDL]) (fun w0 kp => ?_)
 simp only [↓sx0, sxE, encs, sevalprocAttr]
 refine BrW.dec (fun hn => ?_) (fun hn => ?_)
 ·simp only [↓sx0, sxE, encs, sevalprocAttr]
  have : ¬ l = m := fun h => hn (by rw [h])
  refine EndW.fn ?_ ?_ <;> simp only [sx4, encs, kpLL_map, sxR, sevalprocAttr] <;> (try simp [this]) <;> (try omega)
 ·simp only [↓sx0, sxE, encs, sevalprocAttr]
  have hn2 : l.length = m.length := by omega
  refine LoopW.comp [0, 1, 5] (by simp only [sx2, encs, sxR, sevalprocAttr] <;> (try simp) <;> (try omega)) ?_
  simp only [sx2, sxR, sevalprocAttr]
  refine LoopW.up Tok (fun k : Nat => [(5, (.v (.int .i64 k)))]) (fun k => []) (fun k => []) (fun k => []) (fun k => k ≤ l.length ∧ l.take k = m.take k) (fun k => l.length - k) (0) (by simp only [sx2, encs, sxR, sevalprocAttr] <;> (try simp) <;> (try omega)) ?_ ?_
  ·exact ⟨by omega, by simp⟩
  rintro k ⟨hk, ht⟩
  simp only [↓sx0, sxE, encs, sevalprocAttr]
  refine BrW.dec (fun hlt => ?_) (fun hlt => ?_)
  ·simp only [↓sx0, sxE, encs, sevalprocAttr]
   have h1 : k < l.length := by omega
   have h2 : k < m.length := by omega
   refine DrawW.plan Tok mixed (.q 0 <| .q 1 <| .q 2 <| .q 3 <| .q 4 <| .q 5 <| .q 6 <| .q 7 <| .q 8 <| .done) (by kernel_rfl) (by kernel_rfl) ?_
   simp only [↓sx0, sxE, encs, sevalprocAttr]
   refine IxW.nat h1 ?_
   simp only [↓sx0, sxE, encs, sevalprocAttr]
   refine IxW.nat h2 ?_
   simp only [↓sx0, sxE, encs, sevalprocAttr]
   refine BrW.dec (fun hne => ?_) (fun hne => ?_)
   ·simp only [↓sx0, sxE, encs, sevalprocAttr]
    have : ¬ l = m := fun h => hne (by subst h; rfl)
    refine EndW.fn ?_ ?_ <;> simp only [sx4, encs, kpLL_map, sxR, sevalprocAttr] <;> (try simp [this]) <;> (try omega)
   ·simp only [↓sx0, sxE, encs, sevalprocAttr]
    have he : l[k] = m[k] := by rw [eF_inj] at hne; exact Decidable.not_not.1 hne
    (with_reducible refine Vc.go ?_ fun _ => ?_); focus (first | omega | (simp only [InK]; omega) | (simp [InK]; done) | (simp [InK]; omega))
    simp only [↓sx0, sxE, encs, sevalprocAttr]
    refine ⟨k + 1, StLe.auto (by simp only [sx2, encs, sxR, sevalprocAttr] <;> (try simp) <;> (try omega)), ?_, ?_⟩
    ·exact ⟨h1, take_eq_succ h1 h2 ht he⟩
    ·omega
  ·simp only [↓sx0, sxE, encs, sevalprocAttr]
   have hke : k = l.length := by omega
   subst hke
   rw [List.take_length, hn2, List.take_length] at ht
   refine EndW.fn ?_ ?_ <;> simp only [sx4, encs, kpLL_map, sxR, sevalprocAttr] <;> (try simp [ht]) <;> (try omega)
theorem folds_s (b : Bool) (l : List Fold) (hl : l.length ≤ 1000000000) : Ctr Tryz.prog 7 [.sl b 2 (l.map eF)] (fun rr => rr = ⟨.row 0, [.own 69 2 (l.map eF)]⟩) := by
 refine Ctr.of (rs := [.tmp 2]) Tok false Tryz.func7 rfl rfl rfl rfl (by simp [ofDL]) (fun w0 kp => ?_)
 simp only [↓sx0, sxE, encs, sevalprocAttr]
 (with_reducible refine Vc.go ?_ fun _ => ?_); focus (first | omega | (simp only [InK]; omega) | (simp [InK]; done) | (simp [InK]; omega))
 simp only [↓sx0, sxE, encs, sevalprocAttr]
 exact EndW.r [some 1] (by simp) (by simp only [sx4, sxF, encs, kpLL_map, sxR, sevalprocAttr] <;> simp [kpL, kpD]) (by simp only [sx4, sxF, encs, kpLL_map, sxR, sevalprocAttr] <;> simp [kpL, kpD]) (by simp only [sx4, sxF, encs, kpLL_map, sxR, sevalprocAttr] <;> simp [kpL, kpD]) (by simp only [sx4, sxF, encs, kpLL_map, sxR, sevalprocAttr] <;> simp [kpL, kpD])
theorem quarto_s : Ctr Tryz.prog 22 [] (fun rr => rr = ⟨.sl true 2 ([(⟨1, 1⟩ : Fold), ⟨3, 1⟩].map eF), []⟩) := by
 refine Ctr.of (rs := [.tmp 0]) Tok true Tryz.func22 rfl rfl rfl rfl (by simp [ofDL]) (fun w0 kp => ?_)
 simp only [↓sx0, sxE, encs, sevalprocAttr]
 refine EndW.fn ?_ ?_ <;> simp only [sx4, encs, kpLL_map, sxR, sevalprocAttr] <;> (try simp [kpL, kpD]) <;> (try omega)
theorem withinB_s (n lo hi : Int) : Ctr Tryz.prog 33 [(.v (.int .i64 n)), (.v (.int .i64 lo)), (.v (.int .i64 hi))] (fun rr => rr = ⟨(.v (.bool (decide (lo ≤ n ∧ n ≤ hi)))), []⟩) := by
 refine Ctr.of (rs := [.tmp 6]) Tok true Tryz.func33 rfl rfl rfl rfl (by simp [ofDL]) (fun w0 kp => ?_)
 simp only [↓sx0, sxE, encs, sevalprocAttr]
 refine BrW.dec (fun h => ?_) (fun h => ?_)
 ·simp only [↓sx0, sxE, encs, sevalprocAttr]
  refine EndW.fn ?_ ?_ <;> simp only [sx4, encs, kpLL_map, sxR, sevalprocAttr] <;> (try simp [h]) <;> (try omega)
 ·simp only [↓sx0, sxE, encs, sevalprocAttr]
  refine EndW.fn ?_ ?_ <;> simp only [sx4, encs, kpLL_map, sxR, sevalprocAttr] <;> (try simp [h]) <;> (try omega)
end Go.Proofs.YteajjcbinnjgaaaGreatDoor
/-
 Chapter 6, walks: creep and marks.
-/
namespace Go.Proofs.YteajjcbinnjgaaaGreatDoor
open Go Go.Vx
set_option linter.unusedSimpArgs false
set_option maxRecDepth 20000
def creepS (leaves th page : Int) : Int × Int :=
 if 1 ≤ leaves ∧ leaves ≤ 64 then if 0 ≤ th ∧ th ≤ 10000 then if 1 ≤ page ∧ page ≤ 2 * leaves then (min ((page - 1).tdiv 2) (leaves - 1 - (page - 1).tdiv 2) * th, 0) else (0, 2) else (0, 2) else (0, 2)
def markS (s sp m : Int) : Int × Int :=
 if 0 ≤ s ∧ s ≤ 4000 then if 1 ≤ sp ∧ sp ≤ 4000 then if 1 ≤ m ∧ m ≤ sp then (s.tmod (sp.tdiv m) * m, 0) else (0, 2) else (0, 2) else (0, 2)
theorem creep_s (leaves th page : Int) : Ctr Tryz.prog 23 [(.v (.int .i64 leaves)), (.v (.int .i64 th)), (.v (.int .i64 page))] (fun rr => rr = ⟨.tup [(.v (.int .i64 ((creepS leaves th page).1))), (.v (.int .i64 ((creepS leaves th page).2)))], []⟩) := by
 refine Ctr.of (rs := [.tmp 6, .tmp 7]) Tok true Tryz.func23 rfl rfl rfl rfl (by simp [ofDL]) (fun w0 kp => ?_)
 simp only [↓sx0, sxE, encs, sevalprocAttr]
 refine CallI.fn (within_s leaves 1 64) (by simp only [sx3, encs, sxR, sevalprocAttr] <;> (try simp) <;> (try rfl)) ?_
 simp only [↓sx0, sxE, encs, sevalprocAttr]
 refine BrW.dec (fun h1 => ?_) (fun h1 => ?_)
 ·simp only [↓sx0, sxE, encs, sevalprocAttr]
  refine CallI.fn (within_s th 0 10000) (by simp only [sx3, encs, sxR, sevalprocAttr] <;> (try simp) <;> (try rfl)) ?_
  simp only [↓sx0, sxE, encs, sevalprocAttr]
  refine BrW.dec (fun h2 => ?_) (fun h2 => ?_)
  ·simp only [↓sx0, sxE, encs, sevalprocAttr]
   (with_reducible refine Vc.go ?_ fun _ => ?_); focus (first | omega | (simp only [InK]; omega) | (simp [InK]; done) | (simp [InK]; omega))
   simp only [↓sx0, sxE, encs, sevalprocAttr]
   refine CallI.fn (within_s page 1 (2 * leaves)) (by simp only [sx3, encs, sxR, sevalprocAttr] <;> (try simp) <;> (try rfl)) ?_
   simp only [↓sx0, sxE, encs, sevalprocAttr]
   refine BrW.dec (fun h3 => ?_) (fun h3 => ?_)
   ·have q : (page - 1).tdiv 2 = (page - 1) / 2 := Int.tdiv_eq_ediv_of_nonneg (by omega)
    have q1 : 0 ≤ (page - 1).tdiv 2 ∧ (page - 1).tdiv 2 ≤ leaves - 1 := by rw [q]; omega
    clear q
    have q2 : 0 ≤ min ((page - 1).tdiv 2) (leaves - 1 - (page - 1).tdiv 2) ∧ min ((page - 1).tdiv 2) (leaves - 1 - (page - 1).tdiv 2) ≤ 64 := by omega
    have q3 : min ((page - 1).tdiv 2) (leaves - 1 - (page - 1).tdiv 2) * th ≤ 64 * 10000 := Int.mul_le_mul q2.2 h2.2 h2.1 (by omega)
    have q4 : 0 ≤ min ((page - 1).tdiv 2) (leaves - 1 - (page - 1).tdiv 2) * th := Int.mul_nonneg q2.1 h2.1
    simp only [↓sx0, sxE, encs, sevalprocAttr]
    repeat ((with_reducible refine Vc.go ?_ fun _ => ?_); (focus (first | omega | (simp only [InK]; omega) | (simp [InK]; done) | (simp [InK]; omega))); simp only [↓sx0, sxE, encs, sevalprocAttr])
    refine EndW.fn ?_ ?_ <;> simp only [sx4, encs, kpLL_map, sxR, sevalprocAttr] <;> (try simp [creepS, h1, h2, h3]) <;> (try omega)
   ·simp only [↓sx0, sxE, encs, sevalprocAttr]
    refine EndW.fn ?_ ?_ <;> simp only [sx4, encs, kpLL_map, sxR, sevalprocAttr] <;> (try simp [creepS, h1, h2, h3]) <;> (try omega)
  ·simp only [↓sx0, sxE, encs, sevalprocAttr]
   refine EndW.fn ?_ ?_ <;> simp only [sx4, encs, kpLL_map, sxR, sevalprocAttr] <;> (try simp [creepS, h1, h2]) <;> (try omega)
 ·simp only [↓sx0, sxE, encs, sevalprocAttr]
  refine EndW.fn ?_ ?_ <;> simp only [sx4, encs, kpLL_map, sxR, sevalprocAttr] <;> (try simp [creepS, h1]) <;> (try omega)
def misK : List Int → Nat → Int × Int
 | [], _ => (0, 12)
 | n :: l, k => if n = k then misK l (k + 1) else (k, 0)
def misS (l : List Int) : Int × Int := if 1 ≤ l.length ∧ l.length ≤ 4000 then if ∀ n ∈ l, 0 ≤ n ∧ n ≤ 4000 then misK l 0 else (0, 2) else (0, 10)
end Go.Proofs.YteajjcbinnjgaaaGreatDoor
/-
 Chapter 6, walks: books.
-/
namespace Go.Proofs.YteajjcbinnjgaaaGreatDoor
open Go Go.Vx
set_option linter.unusedSimpArgs false
set_option maxRecDepth 20000
structure Book where
 pages : Int
 per : Int
 plates : List Int
 cancels : List Int
/-- the first number of a list that is out of range, or not behind the one ahead of it. -/
def badO (st : Bool) : Option Int → Int → Bool
 | none, _ => false
 | some q, n => if st then decide (n ≤ q) else decide (n < q)
def scanO (lo hi : Int) (st : Bool) : Option Int → Nat → List Int → Option (Nat × Int)
 | _, _, [] => none
 | p, k, n :: l => if ¬ (lo ≤ n ∧ n ≤ hi) then some (k, 2) else if badO st p n = true then some (k, 9) else scanO lo hi st (some n) (k + 1) l
def prevK (l : List Int) : Nat → Option Int
 | 0 => none
 | k + 1 => l[k]?
def bookS (b : Book) : Int × Int :=
 if ¬ (1 ≤ b.pages ∧ b.pages ≤ 4000) then (0, 2) else if ¬ (2 ≤ b.per ∧ b.per ≤ 64) then (0, 2) else if b.per.tmod 2 ≠ 0 then (0, 3) else if 40 < b.plates.length then (0, 8) else
 match scanO 0 b.pages false none 0 b.plates with
 | some (k, e) => (k, e)
 | none => if 40 < b.cancels.length then (0, 8) else
  match scanO 1 b.pages true none 0 b.cancels with
  | some (k, e) => (k, e)
  | none => (0, 0)
theorem book_s (x x' : Bool) (b : Book) : Ctr Tryz.prog 53 [.agg [(.v (.int .i64 b.pages)), (.v (.int .i64 b.per)), .sl x 1 (b.plates.map eI), .sl x' 1 (b.cancels.map eI)]] (fun rr => rr = ⟨.tup [(.v (.int .i64 ((bookS b).1))), (.v (.int .i64 ((bookS b).2)))], []⟩) := by
 refine Ctr.of (rs := [.tmp 2, .tmp 3]) Tok true Tryz.func53 rfl rfl rfl rfl (by simp [ofDL]) (fun w0 kp => ?_)
 simp only [↓sx0, sxE, encs, sevalprocAttr]
 refine CallI.fn (within_s b.pages 1 4000) (by simp only [sx3, encs, sxR, sevalprocAttr] <;> (try simp) <;> (try rfl)) ?_
 simp only [↓sx0, sxE, encs, sevalprocAttr]
 refine BrW.dec (fun p1 => ?_) (fun p1 => ?_)
 ·simp only [↓sx0, sxE, encs, sevalprocAttr]
  refine CallI.fn (within_s b.per 2 64) (by simp only [sx3, encs, sxR, sevalprocAttr] <;> (try simp) <;> (try rfl)) ?_
  simp only [↓sx0, sxE, encs, sevalprocAttr]
  refine BrW.dec (fun p2 => ?_) (fun p2 => ?_)
  ·simp only [↓sx0, sxE, encs, sevalprocAttr]
   (with_reducible refine Vc.go ?_ fun _ => ?_); focus (first | omega | (simp only [InK]; omega) | (simp [InK]; done) | (simp [InK]; omega))
   simp only [↓sx0, sxE, encs, sevalprocAttr]
   refine BrW.dec (fun p3 => ?_) (fun p3 => ?_)
   ·simp only [↓sx0, sxE, encs, sevalprocAttr]
    refine EndW.fn ?_ ?_ <;> simp only [sx4, encs, kpLL_map, sxR, sevalprocAttr] <;> (try simp [bookS, p1, p2, p3]) <;> (try omega)
   ·simp only [↓sx0, sxE, encs, sevalprocAttr]
    refine BrW.dec (fun p4 => ?_) (fun p4 => ?_)
    ·simp only [↓sx0, sxE, encs, sevalprocAttr]
     have p4' : 40 < b.plates.length := by omega
     refine EndW.fn ?_ ?_ <;> simp only [sx4, encs, kpLL_map, sxR, sevalprocAttr] <;> (try simp [bookS, p1, p2, p3, p4']) <;> (try omega)
    ·simp only [↓sx0, sxE, encs, sevalprocAttr]
     have p4' : ¬ 40 < b.plates.length := by omega
     refine LoopW.comp [1, 30, 31, 32] (by simp only [sx2, encs, sxR, sevalprocAttr] <;> (try simp) <;> (try omega)) ?_
     simp only [sx2, sxR, sevalprocAttr]
     refine LoopW.up Tok (fun k : Nat => [(32, (.v (.int .i64 k)))]) (fun k => []) (fun k => []) (fun k => []) (fun k => k ≤ b.plates.length ∧ scanO 0 b.pages false none 0 b.plates = scanO 0 b.pages false (prevK b.plates k) k (b.plates.drop k)) (fun k => b.plates.length - k) (0) (by simp only [sx2, encs, sxR, sevalprocAttr] <;> (try simp) <;> (try omega)) ?_ ?_
     ·exact ⟨by omega, by simp [prevK]⟩
     rintro k ⟨hk, hm⟩
     simp only [↓sx0, sxE, encs, sevalprocAttr]
     refine BrW.dec (fun hlt => ?_) (fun hlt => ?_)
     ·simp only [↓sx0, sxE, encs, sevalprocAttr]
      have h1 : k < b.plates.length := by omega
      rw [List.drop_eq_getElem_cons h1] at hm
      simp only [scanO] at hm
      refine IxW.nat h1 ?_
      simp only [↓sx0, sxE, encs, sevalprocAttr]
      refine CallI.fn (within_s b.plates[k] 0 b.pages) (by simp only [sx3, encs, sxR, sevalprocAttr] <;> (try simp) <;> (try rfl)) ?_
      simp only [↓sx0, sxE, encs, sevalprocAttr]
      refine BrW.dec (fun hin => ?_) (fun hin => ?_)
      ·rw [if_neg (fun h => h hin)] at hm
       simp only [↓sx0, sxE, encs, sevalprocAttr]
       match k, hk, h1, hm, hin with
       | 0, hk, h1, hm, hin =>
        rw [if_neg (by simp [badO, prevK])] at hm
        refine BrW.no (by omega) ?_
        simp only [↓sx0, sxE, encs, sevalprocAttr]
        (with_reducible refine Vc.go ?_ fun _ => ?_); focus (first | omega | (simp only [InK]; omega) | (simp [InK]; done) | (simp [InK]; omega))
        simp only [↓sx0, sxE, encs, sevalprocAttr]
        refine ⟨1, StLe.auto (by simp only [sx2, encs, sxR, sevalprocAttr] <;> (try simp) <;> (try omega)), ?_, ?_⟩
        ·exact ⟨h1, by rw [show prevK b.plates 1 = some b.plates[0] from List.getElem?_eq_getElem h1]; exact hm⟩
        ·omega
       | j + 1, hk, h1, hm, hin =>
        have hj : j < b.plates.length := by omega
        have hp : prevK b.plates (j + 1) = some b.plates[j] := List.getElem?_eq_getElem hj
        rw [hp] at hm
        simp only [badO, Bool.false_eq_true, if_false, if_true] at hm
        refine BrW.yes (by omega) ?_
        simp only [↓sx0, sxE, encs, sevalprocAttr]
        (with_reducible refine Vc.go ?_ fun _ => ?_); focus (first | omega | (simp only [InK]; omega) | (simp [InK]; done) | (simp [InK]; omega))
        simp only [↓sx0, sxE, encs, sevalprocAttr]
        refine IxW.map b.plates[j] (by omega) (by rw [show (((j + 1 : Nat) : Int) - 1).toNat = j by omega]; exact List.getElem?_eq_getElem hj) ?_
        simp only [↓sx0, sxE, encs, sevalprocAttr]
        refine BrW.dec (fun hb => ?_) (fun hb => ?_)
        ·rw [if_pos (by simpa using hb)] at hm
         simp only [↓sx0, sxE, encs, sevalprocAttr]
         refine EndW.fn ?_ ?_ <;> simp only [sx4, encs, kpLL_map, sxR, sevalprocAttr] <;> (try simp [bookS, p1, p2, p3, p4', hm]) <;> (try omega)
        ·rw [if_neg (by simpa using hb)] at hm
         simp only [↓sx0, sxE, encs, sevalprocAttr]
         (with_reducible refine Vc.go ?_ fun _ => ?_); focus (first | omega | (simp only [InK]; omega) | (simp [InK]; done) | (simp [InK]; omega))
         simp only [↓sx0, sxE, encs, sevalprocAttr]
         refine ⟨j + 1 + 1, StLe.auto (by simp only [sx2, encs, sxR, sevalprocAttr] <;> (try simp) <;> (try omega)), ?_, ?_⟩
         ·exact ⟨h1, by rw [show prevK b.plates (j + 1 + 1) = some b.plates[j + 1] from List.getElem?_eq_getElem h1]; exact hm⟩
         ·omega
      ·rw [if_pos hin] at hm
       simp only [↓sx0, sxE, encs, sevalprocAttr]
       refine EndW.fn ?_ ?_ <;> simp only [sx4, encs, kpLL_map, sxR, sevalprocAttr] <;> (try simp [bookS, p1, p2, p3, p4', hm]) <;> (try omega)
     ·simp only [↓sx0, sxE, encs, sevalprocAttr]
      have hke : k = b.plates.length := by omega
      subst hke
      rw [List.drop_length] at hm
      simp only [scanO] at hm
      clear hk hlt
      have q1 := hm
      clear hm
      refine BrW.dec (fun p5 => ?_) (fun p5 => ?_)
      ·simp only [↓sx0, sxE, encs, sevalprocAttr]
       have p5' : 40 < b.cancels.length := by omega
       refine EndW.fn ?_ ?_ <;> simp only [sx4, encs, kpLL_map, sxR, sevalprocAttr] <;> (try simp [bookS, p1, p2, p3, p4', q1, p5']) <;> (try omega)
      ·simp only [↓sx0, sxE, encs, sevalprocAttr]
       have p5' : ¬ 40 < b.cancels.length := by omega
       refine LoopW.comp [1, 64, 65, 66] (by simp only [sx2, encs, sxR, sevalprocAttr] <;> (try simp) <;> (try omega)) ?_
       simp only [sx2, sxR, sevalprocAttr]
       refine LoopW.up Tok (fun k : Nat => [(66, (.v (.int .i64 k)))]) (fun k => []) (fun k => []) (fun k => []) (fun k => k ≤ b.cancels.length ∧ scanO 1 b.pages true none 0 b.cancels = scanO 1 b.pages true (prevK b.cancels k) k (b.cancels.drop k)) (fun k => b.cancels.length - k) (0) (by simp only [sx2, encs, sxR, sevalprocAttr] <;> (try simp) <;> (try omega)) ?_ ?_
       ·exact ⟨by omega, by simp [prevK]⟩
       rintro k ⟨hk, hm⟩
       simp only [↓sx0, sxE, encs, sevalprocAttr]
       refine BrW.dec (fun hlt => ?_) (fun hlt => ?_)
       ·simp only [↓sx0, sxE, encs, sevalprocAttr]
        have h1 : k < b.cancels.length := by omega
        rw [List.drop_eq_getElem_cons h1] at hm
        simp only [scanO] at hm
        refine IxW.nat h1 ?_
        simp only [↓sx0, sxE, encs, sevalprocAttr]
        refine CallI.fn (within_s b.cancels[k] 1 b.pages) (by simp only [sx3, encs, sxR, sevalprocAttr] <;> (try simp) <;> (try rfl)) ?_
        simp only [↓sx0, sxE, encs, sevalprocAttr]
        refine BrW.dec (fun hin => ?_) (fun hin => ?_)
        ·rw [if_neg (fun h => h hin)] at hm
         simp only [↓sx0, sxE, encs, sevalprocAttr]
         match k, hk, h1, hm, hin with
         | 0, hk, h1, hm, hin =>
          rw [if_neg (by simp [badO, prevK])] at hm
          refine BrW.no (by omega) ?_
          simp only [↓sx0, sxE, encs, sevalprocAttr]
          (with_reducible refine Vc.go ?_ fun _ => ?_); focus (first | omega | (simp only [InK]; omega) | (simp [InK]; done) | (simp [InK]; omega))
          simp only [↓sx0, sxE, encs, sevalprocAttr]
          refine ⟨1, StLe.auto (by simp only [sx2, encs, sxR, sevalprocAttr] <;> (try simp) <;> (try omega)), ?_, ?_⟩
          ·exact ⟨h1, by rw [show prevK b.cancels 1 = some b.cancels[0] from List.getElem?_eq_getElem h1]; exact hm⟩
          ·omega
         | j + 1, hk, h1, hm, hin =>
          have hj : j < b.cancels.length := by omega
          have hp : prevK b.cancels (j + 1) = some b.cancels[j] := List.getElem?_eq_getElem hj
          rw [hp] at hm
          simp only [badO, Bool.false_eq_true, if_false, if_true] at hm
          refine BrW.yes (by omega) ?_
          simp only [↓sx0, sxE, encs, sevalprocAttr]
          (with_reducible refine Vc.go ?_ fun _ => ?_); focus (first | omega | (simp only [InK]; omega) | (simp [InK]; done) | (simp [InK]; omega))
          simp only [↓sx0, sxE, encs, sevalprocAttr]
          refine IxW.map b.cancels[j] (by omega) (by rw [show (((j + 1 : Nat) : Int) - 1).toNat = j by omega]; exact List.getElem?_eq_getElem hj) ?_
          simp only [↓sx0, sxE, encs, sevalprocAttr]
          refine BrW.dec (fun hb => ?_) (fun hb => ?_)
          ·rw [if_pos (by simpa using hb)] at hm
           simp only [↓sx0, sxE, encs, sevalprocAttr]
           refine EndW.fn ?_ ?_ <;> simp only [sx4, encs, kpLL_map, sxR, sevalprocAttr] <;> (try simp [bookS, p1, p2, p3, p4', q1, p5', hm]) <;> (try omega)
          ·rw [if_neg (by simpa using hb)] at hm
           simp only [↓sx0, sxE, encs, sevalprocAttr]
           (with_reducible refine Vc.go ?_ fun _ => ?_); focus (first | omega | (simp only [InK]; omega) | (simp [InK]; done) | (simp [InK]; omega))
           simp only [↓sx0, sxE, encs, sevalprocAttr]
           refine ⟨j + 1 + 1, StLe.auto (by simp only [sx2, encs, sxR, sevalprocAttr] <;> (try simp) <;> (try omega)), ?_, ?_⟩
           ·exact ⟨h1, by rw [show prevK b.cancels (j + 1 + 1) = some b.cancels[j + 1] from List.getElem?_eq_getElem h1]; exact hm⟩
           ·omega
        ·rw [if_pos hin] at hm
         simp only [↓sx0, sxE, encs, sevalprocAttr]
         refine EndW.fn ?_ ?_ <;> simp only [sx4, encs, kpLL_map, sxR, sevalprocAttr] <;> (try simp [bookS, p1, p2, p3, p4', q1, p5', hm]) <;> (try omega)
       ·simp only [↓sx0, sxE, encs, sevalprocAttr]
        have hke : k = b.cancels.length := by omega
        subst hke
        rw [List.drop_length] at hm
        simp only [scanO] at hm
        clear hk hlt
        refine EndW.fn ?_ ?_ <;> simp only [sx4, encs, kpLL_map, sxR, sevalprocAttr] <;> (try simp [bookS, p1, p2, p3, p4', q1, p5', hm]) <;> (try omega)
  ·simp only [↓sx0, sxE, encs, sevalprocAttr]
   refine EndW.fn ?_ ?_ <;> simp only [sx4, encs, kpLL_map, sxR, sevalprocAttr] <;> (try simp [bookS, p1, p2]) <;> (try omega)
 ·simp only [↓sx0, sxE, encs, sevalprocAttr]
  refine EndW.fn ?_ ?_ <;> simp only [sx4, encs, kpLL_map, sxR, sevalprocAttr] <;> (try simp [bookS, p1]) <;> (try omega)
end Go.Proofs.YteajjcbinnjgaaaGreatDoor
/-
 Chapter 6, walks: signatures.
-/
namespace Go.Proofs.YteajjcbinnjgaaaGreatDoor
open Go Go.Vx
set_option linter.unusedSimpArgs false
set_option maxRecDepth 20000
def sigE (P Q k : Nat) : Rng := ⟨1 + (k : Int) * Q, min (1 + (k : Int) * Q + Q - 1) P⟩
def sigL (P Q k : Nat) : List Rng := (List.range k).map (sigE P Q)
theorem sigL_succ (P Q k : Nat) : sigL P Q (k + 1) = sigL P Q k ++ [sigE P Q k] := by simp [sigL, List.range_succ]
theorem sigL_length (P Q k : Nat) : (sigL P Q k).length = k := by simp [sigL]
def sigN (P Q : Nat) : Nat := (P + Q - 1) / Q
theorem sigN_eq {P Q k : Nat} (hQ : 0 < Q) (h1 : P ≤ k * Q) (h2 : k = 0 ∨ k * Q < P + Q) (hP : 0 < P) : k = sigN P Q := by
 unfold sigN
 have h3 : k * Q < P + Q := by
  rcases h2 with rfl | h2
  ·simp at h1; omega
  ·exact h2
 exact ((Nat.div_eq_iff hQ).2 ⟨by omega, by omega⟩).symm
theorem book_ok {b : Book} (h : (bookS b).2 = 0) : 1 ≤ b.pages ∧ b.pages ≤ 4000 ∧ 2 ≤ b.per ∧ b.per ≤ 64 := by
 unfold bookS at h
 by_cases p1 : 1 ≤ b.pages ∧ b.pages ≤ 4000
 ·by_cases p2 : 2 ≤ b.per ∧ b.per ≤ 64
  ·exact ⟨p1.1, p1.2, p2.1, p2.2⟩
  ·rw [if_neg (fun h => h p1), if_pos p2] at h; simp at h
 ·rw [if_pos p1] at h; simp at h
def sigS (b : Book) : List Rng × Int × Int :=
 if (bookS b).2 ≠ 0 then ([], 0, (bookS b).2) else (sigL b.pages.toNat b.per.toNat (sigN b.pages.toNat b.per.toNat), (sigN b.pages.toNat b.per.toNat : Int) * b.per.toNat - b.pages.toNat, 0)
theorem sig_s (x x' : Bool) (b : Book) : Ctr Tryz.prog 24 [.agg [(.v (.int .i64 b.pages)), (.v (.int .i64 b.per)), .sl x 1 (b.plates.map eI), .sl x' 1 (b.cancels.map eI)]] (fun rr => rr = ⟨.tup [.sl true 2 ((sigS b).1.map eR), (.v (.int .i64 ((sigS b).2.1))), (.v (.int .i64 ((sigS b).2.2)))], []⟩) := by
 refine Ctr.of (rs := [.tmp 2, .tmp 3, .tmp 4]) Tok true Tryz.func24 rfl rfl rfl rfl (by simp [ofDL]) (fun w0 kp => ?_)
 simp only [↓sx0, sxE, encs, sevalprocAttr]
 refine CallI.fn (book_s x x' b) (by simp only [sx3, encs, sxR, sevalprocAttr] <;> (try simp) <;> (try rfl)) ?_
 simp only [↓sx0, sxE, encs, sevalprocAttr]
 refine BrW.dec (fun he => ?_) (fun he => ?_)
 ·simp only [↓sx0, sxE, encs, sevalprocAttr]
  refine EndW.fn ?_ ?_ <;> simp only [sx4, encs, kpLL_map, sxR, sevalprocAttr] <;> (try simp [sigS, he]) <;> (try omega)
 ·have he0 : (bookS b).2 = 0 := Decidable.not_not.1 he
  obtain ⟨a1, a2, a3, a4⟩ := book_ok he0
  obtain ⟨p, q, pl, ca⟩ := b
  simp only [] at a1 a2 a3 a4
  obtain ⟨P, rfl⟩ : ∃ P : Nat, p = P := ⟨p.toNat, by omega⟩
  obtain ⟨Q, rfl⟩ : ∃ Q : Nat, q = Q := ⟨q.toNat, by omega⟩
  simp only [↓sx0, sxE, encs, sevalprocAttr]
  refine LoopW.comp [1, 7, 8] (by simp only [sx2, encs, sxR, sevalprocAttr] <;> (try simp) <;> (try omega)) ?_
  simp only [sx2, sxR, sevalprocAttr]
  refine LoopW.up Tok (fun k : Nat => [(7, .row 0), (8, (.v (.int .i64 (1 + (k : Int) * Q))))]) (fun k => []) (fun k => []) (fun k => [.own 66 2 ((sigL P Q k).map eR)]) (fun k => k = 0 ∨ k * Q < P + Q) (fun k => P - k * Q) (0) (by simp only [sx2, encs, sxR, sevalprocAttr] <;> (try simp [sigL, encs]) <;> (try omega)) ?_ ?_
  ·exact .inl rfl
  intro k hk
  have e : 1 + ((k + 1 : Nat) : Int) * Q = 1 + (k : Int) * Q + Q := by rw [Int.natCast_add, Int.add_mul]; omega
  have e2 : (k + 1) * Q = k * Q + Q := Nat.succ_mul k Q
  have e3 : ((k * Q : Nat) : Int) = (k : Int) * Q := by simp
  have hkq : k ≤ k * Q := Nat.le_mul_of_pos_right k (by omega)
  simp only [↓sx0, sxE, encs, sevalprocAttr]
  refine BrW.dec (fun hlt => ?_) (fun hlt => ?_)
  ·simp only [↓sx0, sxE, encs, sevalprocAttr]
   repeat ((with_reducible refine Vc.go ?_ fun _ => ?_); (focus (first | omega | (simp only [InK]; omega) | (simp [sigL_length, InK]; done) | (simp [sigL_length, InK]; omega))); simp only [↓sx0, sxE, encs, sevalprocAttr])
   have e4 : [D.v (.int .i64 (1 + (k : Int) * Q)), D.v (.int .i64 (min (1 + (k : Int) * Q + Q - 1) (P : Int)))] = eR (sigE P Q k) := by simp [eR, sigE]
   rw [e4]
   refine ⟨k + 1, StLe.auto (by simp only [sx2, encs, sxR, sevalprocAttr] <;> (try simp [sigL_succ, e, Int.add_mul, encs]) <;> (try omega)), ?_, ?_⟩
   ·exact .inr (by rw [e2]; omega)
   ·rw [e2]; omega
  ·simp only [↓sx0, sxE, encs, sevalprocAttr]
   have hN : k = sigN P Q := sigN_eq (by omega) (by omega) hk (by omega)
   have hk2 : k * Q < P + Q := by
    rcases hk with rfl | hk
    ·simp; omega
    ·exact hk
   refine DrawW.plan Tok mixed (.q 0 <| .q 1 <| .q 2 <| .q 3 <| .q 4 <| .q 5 <| .q 6 <| .q 7 <| .q 8 <| .done) (by kernel_rfl) (by kernel_rfl) ?_
   simp only [↓sx0, sxE, encs, sevalprocAttr]
   repeat ((with_reducible refine Vc.go ?_ fun _ => ?_); (focus (first | omega | (simp only [InK]; omega) | (simp [InK]; done) | (simp [InK]; omega))); simp only [↓sx0, sxE, encs, sevalprocAttr])
   have e5 : (sigS ⟨P, Q, pl, ca⟩) = (sigL P Q k, (k : Int) * Q - P, 0) := by
    unfold sigS
    rw [if_neg (by simp [he0])]
    simp [← hN]
   rw [e5]
   refine EndW.fn ?_ ?_ <;> simp only [sx4, encs, kpLL_map, sxR, sevalprocAttr] <;> (try simp [kpL, kpD]) <;> (try omega)
end Go.Proofs.YteajjcbinnjgaaaGreatDoor
/-
 Chapter 6, walks: schemes of folds.
-/
namespace Go.Proofs.YteajjcbinnjgaaaGreatDoor
open Go Go.Vx
set_option linter.unusedSimpArgs false
set_option maxRecDepth 20000
/-- all leaves are so. -/
def allP (P : Leaf → Prop) (ls : List (List Leaf)) : Prop := ∀ l ∈ ls, ∀ y ∈ l, P y
theorem allP_stk {P : Leaf → Prop} {ls : List (List Leaf)} (h : allP P ls) (i : Nat) : ∀ y ∈ stkAt ls i, P y := by
 by_cases hi : i < ls.length
 ·exact h _ (List.mem_of_getElem? (stkAt_get hi))
 ·have : stkAt ls i = [] := by simp [stkAt, List.getD_eq_getElem?_getD, List.getElem?_eq_none (Nat.le_of_not_lt hi)]
  rw [this]; simp
theorem allP_fold {P : Leaf → Prop} (h1 : ∀ b y, P y → P (flip b y)) (h2 : ∀ y, P y → P (rnd1 y)) {p : PileS} (h : allP P p.ls) (x : Fold) : allP P (foldP p x).ls := by
 have hf : ∀ b i, ∀ y ∈ (stkAt p.ls i).reverse.map (flip b), P y := fun b i y hy => by
  simp only [List.mem_map, List.mem_reverse] at hy
  obtain ⟨z, hz, rfl⟩ := hy
  exact h1 b z (allP_stk h i z hz)
 have hlaid : ∀ (rows back : Bool) (first along across : Nat), ∀ y ∈ laidAt p.cols p.rows first rows back p.ls along across, P y := fun rows back first along across y hy => by
  unfold laidAt at hy
  simp only [] at hy
  generalize (if back = true then first - 1 - along else along) = a at hy
  generalize (if rows = true then p.rows else p.cols) = side at hy
  split at hy
  ·rcases List.mem_append.1 hy with hy | hy
   ·exact hf _ _ y hy
   ·exact allP_stk h _ y hy
  ·exact allP_stk h _ y hy
 unfold foldP
 by_cases he : foldErrS p x ≠ 0
 ·rw [if_pos he]; exact h
 rw [if_neg he]
 by_cases h5 : x.kind = 5
 ·rw [if_pos h5]
  intro l hl
  obtain ⟨c, r, _, _, rfl⟩ := mem_grid hl
  exact hf _ _
 rw [if_neg h5]
 by_cases h6 : x.kind = 6
 ·rw [if_pos h6]
  intro l hl
  obtain ⟨c, r, _, _, rfl⟩ := mem_grid hl
  intro y hy
  simp only [List.mem_map] at hy
  obtain ⟨z, hz, rfl⟩ := hy
  exact h2 z (allP_stk h _ z hz)
 rw [if_neg h6]
 intro l hl
 simp only [laidG] at hl
 split at hl
 ·obtain ⟨c, r, _, _, rfl⟩ := mem_grid hl
  exact hlaid _ _ _ _ _
 ·obtain ⟨c, r, _, _, rfl⟩ := mem_grid hl
  exact hlaid _ _ _ _ _
theorem allP_run {P : Leaf → Prop} (h1 : ∀ b y, P y → P (flip b y)) (h2 : ∀ y, P y → P (rnd1 y)) : ∀ (l : List Fold) (p : PileS) (k : Nat), allP P p.ls → allP P (foldRun p k l).1.ls
 | [], p, _, h => h
 | x :: l, p, k, h => by
  simp only [foldRun]
  split
  ·exact allP_fold h1 h2 h x
  ·exact allP_run h1 h2 l _ _ (allP_fold h1 h2 h x)
/-- leaves of a sheet. -/
def InS (c r : Int) (y : Leaf) : Prop := (0 ≤ y.col ∧ y.col < c) ∧ 0 ≤ y.row ∧ y.row < r
theorem folded_in (c r : Int) (l : List Fold) : ∀ y ∈ (foldedS c r l).1, InS c r y := by
 unfold foldedS
 split
 ·simp
 split
 ·simp
 have h0 : allP (InS c r) (flatP c.toNat r.toNat).ls := fun s hs y hy => by
  simp only [flatP, flatG] at hs
  obtain ⟨a, b, ha, hb, rfl⟩ := mem_grid hs
  simp only [oneL, List.mem_singleton] at hy
  subst hy
  simp only [InS]; omega
 have h := allP_run (P := InS c r) (fun b y hy => by simpa only [InS, flip] using hy) (fun y hy => by simpa only [InS, rnd1] using hy) l _ 0 h0
 split
 ·simp
 ·rename_i p hp
  rw [hp] at h
  split
  ·simp
  ·intro y hy
   cases hls : p.ls with
   | nil => rw [hls] at hy; simp at hy
   | cons s m => rw [hls] at hy; exact h s (by simp [hls]) y hy
def cellAt (i : Nat) (x : Leaf) : Cell := if x.over = 1 then ⟨2 * (i : Int) + 2, x.round, 2 * (i : Int) + 1, x.round⟩ else ⟨2 * (i : Int) + 1, x.round, 2 * (i : Int) + 2, x.round⟩
def schemeK (cols : Int) : List Cell → Nat → List Leaf → List Cell
 | cs, _, [] => cs
 | cs, i, x :: l => schemeK cols (cs.set (x.row * cols + x.col).toNat (cellAt i x)) (i + 1) l
def zeroC : Cell := ⟨0, 0, 0, 0⟩
/-- columns, rows, cells, and the error. -/
def schemeS (c r : Int) (l : List Fold) : Int × Int × List Cell × Int :=
 if (foldedS c r l).2.2 ≠ 0 then (0, 0, [], (foldedS c r l).2.2) else (c, r, schemeK c (List.replicate (c * r).toNat zeroC) 0 (foldedS c r l).1, 0)
theorem folded_sheet {c r : Int} {l : List Fold} (h : (foldedS c r l).2.2 = 0) : 1 ≤ c ∧ c ≤ 8 ∧ 1 ≤ r ∧ r ≤ 8 ∧ sheetErr c r = 0 := by
 have he : sheetErr c r = 0 := by
  unfold foldedS at h
  by_cases he : sheetErr c r = 0
  ·exact he
  ·rw [if_pos he] at h; exact h
 have he2 := he
 unfold sheetErr at he2
 by_cases h1 : 1 ≤ c ∧ c ≤ 8
 ·rw [if_pos h1] at he2
  by_cases h2 : 1 ≤ r ∧ r ≤ 8
  ·exact ⟨h1.1, h1.2, h2.1, h2.2, he⟩
  ·rw [if_neg h2] at he2; omega
 ·rw [if_neg h1] at he2; omega
theorem foldRun_good : ∀ (l : List Fold) (p : PileS) (k h : Nat), p.Good h → (foldRun p k l).2 = none → (foldRun p k l).1.Good (2 ^ l.length * h)
 | [], p, k, h, hg, _ => by simpa [foldRun] using hg
 | x :: l, p, k, h, hg, hn => by
  simp only [foldRun] at hn ⊢
  by_cases he : foldErrS p x ≠ 0
  ·rw [if_pos he] at hn; simp at hn
  ·rw [if_neg he] at hn ⊢
   have := foldRun_good l _ (k + 1) _ (foldP_good hg (Decidable.not_not.1 he)) hn
   rwa [← Nat.mul_assoc, ← Nat.pow_succ] at this
theorem folded_len (c r : Int) (l : List Fold) : (foldedS c r l).1.length ≤ 4096 := by
 unfold foldedS
 by_cases h0 : sheetErr c r ≠ 0
 ·rw [if_pos h0]; simp
 rw [if_neg h0]
 by_cases h1 : 12 < l.length
 ·rw [if_pos h1]; simp
 rw [if_neg h1]
 have hs : 1 ≤ c ∧ c ≤ 8 ∧ 1 ≤ r ∧ r ≤ 8 := by
  have he2 := Decidable.not_not.1 h0
  unfold sheetErr at he2
  by_cases h1 : 1 ≤ c ∧ c ≤ 8
  ·rw [if_pos h1] at he2
   by_cases h2 : 1 ≤ r ∧ r ≤ 8
   ·omega
   ·rw [if_neg h2] at he2; omega
  ·rw [if_neg h1] at he2; omega
 have hg := foldRun_good l (flatP c.toNat r.toNat) 0 1 (flatP_good (by omega) (by omega) (by omega) (by omega))
 split
 ·simp
 ·rename_i p hp
  rw [hp] at hg
  have hg := hg rfl
  split
  ·simp
  ·cases hls : p.ls with
   | nil => simp
   | cons s m =>
    have h3 := (hg.fine s (by simp [hls])).2
    have : (2 : Nat) ^ l.length ≤ 2 ^ 12 := Nat.pow_le_pow_right (by omega) (by omega)
    simp only [List.headD_cons]; omega
theorem scheme_s (b : Bool) (c r : Int) (f : List Fold) (hf : Cnt f) : Ctr Tryz.prog 21 [.agg [(.v (.int .i64 c)), (.v (.int .i64 r))], .sl b 2 (f.map eF)] (fun rr => rr = ⟨.tup [.agg [(.v (.int .i64 ((schemeS c r f).1))), (.v (.int .i64 ((schemeS c r f).2.1))), .sl true 4 ((schemeS c r f).2.2.1.map eC)], (.v (.int .i64 ((schemeS c r f).2.2.2)))], []⟩) := by
 have hin := folded_in c r f
 have hl4 := folded_len c r f
 refine Ctr.of (rs := [.cell 4 38, .tmp 5]) Tok true Tryz.func21 rfl rfl rfl rfl (by simp [ofDL]) (fun w0 kp => ?_)
 simp only [↓sx0, sxE, encs, sevalprocAttr]
 refine CallI.fn (folded_s b c r f hf) (by simp only [sx3, encs, sxR, sevalprocAttr] <;> (try simp) <;> (try rfl)) ?_
 simp only [↓sx0, sxE, encs, sevalprocAttr]
 refine BrW.dec (fun he => ?_) (fun he => ?_)
 ·simp only [↓sx0, sxE, encs, sevalprocAttr]
  refine EndW.fn ?_ ?_ <;> simp only [sx4, encs, kpLL_map, sxR, sevalprocAttr] <;> (try simp [schemeS, he]) <;> (try omega)
 ·obtain ⟨c1, c2, r1, r2, _⟩ := folded_sheet (Decidable.not_not.1 he)
  have hS : schemeS c r f = (c, r, schemeK c (List.replicate (c * r).toNat zeroC) 0 (foldedS c r f).1, 0) := by unfold schemeS; rw [if_neg he]
  generalize (foldedS c r f).1 = l at hin hS hl4
  obtain ⟨c, rfl⟩ : ∃ n : Nat, c = n := ⟨c.toNat, by omega⟩
  obtain ⟨r, rfl⟩ : ∃ n : Nat, r = n := ⟨r.toNat, by omega⟩
  have m1 : (c : Int) * r ≤ 8 * 8 := Int.mul_le_mul c2 r2 (by omega) (by omega)
  have m2 : 0 ≤ (c : Int) * r := Int.mul_nonneg (by omega) (by omega)
  simp only [↓sx0, sxE, encs, sevalprocAttr]
  refine DrawW.plan Tok mixed (.q 0 <| .q 1 <| .q 2 <| .q 3 <| .q 4 <| .q 5 <| .q 6 <| .q 7 <| .q 8 <| .e2 9 [1, 3] (.q 10 <| .e 11 [1, 3, 5, 7] <| .e 12 [] <| .done) 11 [1, 3, 5, 7] (.e 9 [1, 3] <| .q 10 <| .e 12 [] <| .done)) (by kernel_rfl) (by kernel_rfl) ?_
  simp only [↓sx0, sxE, encs, sevalprocAttr]
  repeat ((with_reducible refine Vc.go ?_ fun _ => ?_); (focus (first | omega | (simp only [InK]; omega) | (simp [InK]; done) | (simp [InK]; omega))); simp only [↓sx0, sxE, encs, sevalprocAttr])
  refine ⟨?_, ?_⟩
  all_goals
   repeat ((with_reducible refine Vc.go ?_ fun _ => ?_); (focus (first | omega | (simp only [InK]; omega) | (simp [InK]; done) | (simp [InK]; omega))); simp only [↓sx0, sxE, encs, sevalprocAttr])
   refine LoopW.comp [4, 9, 35, 36, 37] (by simp only [sx2, encs, sxR, sevalprocAttr] <;> (try simp) <;> (try omega)) ?_
   simp only [sx2, sxR, sevalprocAttr]
   refine LoopW.up Tok (fun x : Nat × List Cell => [(37, (.v (.int .i64 x.1)))]) (fun x => []) (fun x => [(0, x.2.map eC)]) (fun x => []) (fun x => x.1 ≤ l.length ∧ x.2.length = ((c : Int) * r).toNat ∧ schemeK c (List.replicate ((c : Int) * r).toNat zeroC) 0 l = schemeK c x.2 x.1 (l.drop x.1)) (fun x => l.length - x.1) ((0, List.replicate ((c : Int) * r).toNat zeroC)) (by simp only [sx2, encs, sxR, sevalprocAttr] <;> (try simp [eC, zeroC, encs]) <;> (try omega)) ?_ ?_
   ·exact ⟨by simp, by simp, by simp⟩
   rintro ⟨k, cs⟩ ⟨hk, hlen, hm⟩
   simp only [] at hk hlen hm
   simp only [↓sx0, sxE, encs, sevalprocAttr]
   refine BrW.dec (fun hlt => ?_) (fun hlt => ?_)
   ·have h1 : k < l.length := by omega
    rw [List.drop_eq_getElem_cons h1] at hm
    simp only [schemeK] at hm
    obtain ⟨⟨i1, i2⟩, i3, i4⟩ := hin l[k] (List.getElem_mem h1)
    have w1 : l[k].row * (c : Int) + (c : Int) ≤ (c : Int) * r := by
     have := Int.mul_le_mul_of_nonneg_right (show l[k].row + 1 ≤ (r : Int) by omega) (show (0 : Int) ≤ c by omega)
     rw [Int.add_mul, Int.one_mul, Int.mul_comm (r : Int)] at this; exact this
    have w2 : 0 ≤ l[k].row * (c : Int) := Int.mul_nonneg i3 (by omega)
    have hi : (l[k].row * (c : Int) + l[k].col).toNat < cs.length := by rw [hlen]; omega
    have hset : ∀ e : Cell, (cs.map eC).modify (l[k].row * (c : Int) + l[k].col).toNat (modE · 0 [.v (.int .i64 e.front), .v (.int .i64 e.fturn), .v (.int .i64 e.back), .v (.int .i64 e.bturn)]) = (cs.set (l[k].row * (c : Int) + l[k].col).toNat e).map eC := fun e => modify_map (List.getElem?_eq_getElem hi) e rfl
    have hset := hset (cellAt k l[k])
    unfold cellAt at hset
    simp only [↓sx0, sxE, encs, sevalprocAttr]
    refine IxW.nat h1 ?_
    simp only [↓sx0, sxE, encs, sevalprocAttr]
    repeat ((with_reducible refine Vc.go ?_ fun _ => ?_); (focus (first | omega | (simp only [InK]; omega) | (simp [InK]; done) | (simp [InK]; omega))); simp only [↓sx0, sxE, encs, sevalprocAttr])
    refine BrW.dec (fun ho => ?_) (fun ho => ?_)
    ·rw [if_pos ho] at hset
     have hca : cellAt k l[k] = ⟨2 * (k : Int) + 2, l[k].round, 2 * (k : Int) + 1, l[k].round⟩ := by unfold cellAt; rw [if_pos ho]
     simp only [↓sx0, sxE, encs, sevalprocAttr]
     repeat ((with_reducible refine Vc.go ?_ fun _ => ?_); (focus (first | omega | (simp only [InK]; omega) | (simp [hlen, InK]; done) | (simp [hlen, InK]; omega))); simp only [↓sx0, sxE, encs, sevalprocAttr])
     rw [hset, ← hca]
     refine ⟨(k + 1, cs.set (l[k].row * (c : Int) + l[k].col).toNat (cellAt k l[k])), StLe.auto (by simp only [sx2, encs, sxR, sevalprocAttr] <;> (try simp) <;> (try omega)), ?_, ?_⟩
     ·exact ⟨by show k + 1 ≤ l.length; omega, by simp [hlen], hm⟩
     ·show l.length - (k + 1) < l.length - k; omega
    ·rw [if_neg ho] at hset
     have hca : cellAt k l[k] = ⟨2 * (k : Int) + 1, l[k].round, 2 * (k : Int) + 2, l[k].round⟩ := by unfold cellAt; rw [if_neg ho]
     simp only [↓sx0, sxE, encs, sevalprocAttr]
     repeat ((with_reducible refine Vc.go ?_ fun _ => ?_); (focus (first | omega | (simp only [InK]; omega) | (simp [hlen, InK]; done) | (simp [hlen, InK]; omega))); simp only [↓sx0, sxE, encs, sevalprocAttr])
     rw [hset, ← hca]
     refine ⟨(k + 1, cs.set (l[k].row * (c : Int) + l[k].col).toNat (cellAt k l[k])), StLe.auto (by simp only [sx2, encs, sxR, sevalprocAttr] <;> (try simp) <;> (try omega)), ?_, ?_⟩
     ·exact ⟨by show k + 1 ≤ l.length; omega, by simp [hlen], hm⟩
     ·show l.length - (k + 1) < l.length - k; omega
   ·simp only [↓sx0, sxE, encs, sevalprocAttr]
    have hke : k = l.length := by omega
    subst hke
    rw [List.drop_length] at hm
    simp only [schemeK] at hm
    rw [hS, hm]
    refine EndW.fn ?_ ?_ <;> simp only [sx4, encs, kpLL_map, sxR, sevalprocAttr] <;> (try simp [kpL, kpD]) <;> (try omega)
end Go.Proofs.YteajjcbinnjgaaaGreatDoor
/-
 Chapter 6, walks: the examples of the chapter.
-/
namespace Go.Proofs.YteajjcbinnjgaaaGreatDoor
open Go Go.Vx
set_option linter.unusedSimpArgs false
set_option maxRecDepth 20000
theorem same_s (x y : Bool) (c r c' r' : Int) (l m : List Cell) (hl : l.length ≤ 1000000000) : Ctr Tryz.prog 16 [.agg [(.v (.int .i64 c)), (.v (.int .i64 r)), .sl x 4 (l.map eC)], .agg [(.v (.int .i64 (c'))), (.v (.int .i64 (r'))), .sl y 4 (m.map eC)]] (fun rr => rr = ⟨(.v (.bool (decide (c = c' ∧ r = r' ∧ l = m)))), []⟩) := by
 refine Ctr.of (rs := [.tmp 4]) Tok true Tryz.func16 rfl rfl rfl rfl (by simp [ofDL]) (fun w0 kp => ?_)
 simp only [↓sx0, sxE, encs, sevalprocAttr]
 refine BrW.dec (fun h1 => ?_) (fun h1 => ?_)
 ·simp only [↓sx0, sxE, encs, sevalprocAttr]
  refine EndW.fn ?_ ?_ <;> simp only [sx4, encs, kpLL_map, sxR, sevalprocAttr] <;> (try simp [h1]) <;> (try omega)
 simp only [↓sx0, sxE, encs, sevalprocAttr]
 refine BrW.dec (fun h2 => ?_) (fun h2 => ?_)
 ·simp only [↓sx0, sxE, encs, sevalprocAttr]
  refine EndW.fn ?_ ?_ <;> simp only [sx4, encs, kpLL_map, sxR, sevalprocAttr] <;> (try simp [h2]) <;> (try omega)
 simp only [↓sx0, sxE, encs, sevalprocAttr]
 refine BrW.dec (fun hn => ?_) (fun hn => ?_)
 ·simp only [↓sx0, sxE, encs, sevalprocAttr]
  have : ¬ l = m := fun h => hn (by rw [h])
  refine EndW.fn ?_ ?_ <;> simp only [sx4, encs, kpLL_map, sxR, sevalprocAttr] <;> (try simp [this]) <;> (try omega)
 ·simp only [↓sx0, sxE, encs, sevalprocAttr]
  have hn2 : l.length = m.length := by omega
  refine LoopW.comp [2, 3, 5] (by simp only [sx2, encs, sxR, sevalprocAttr] <;> (try simp) <;> (try omega)) ?_
  simp only [sx2, sxR, sevalprocAttr]
  refine LoopW.up Tok (fun k : Nat => [(5, (.v (.int .i64 k)))]) (fun k => []) (fun k => []) (fun k => []) (fun k => k ≤ l.length ∧ l.take k = m.take k) (fun k => l.length - k) (0) (by simp only [sx2, encs, sxR, sevalprocAttr] <;> (try simp) <;> (try omega)) ?_ ?_
  ·exact ⟨by omega, by simp⟩
  rintro k ⟨hk, ht⟩
  simp only [↓sx0, sxE, encs, sevalprocAttr]
  refine BrW.dec (fun hlt => ?_) (fun hlt => ?_)
  ·simp only [↓sx0, sxE, encs, sevalprocAttr]
   have g1 : k < l.length := by omega
   have g2 : k < m.length := by omega
   refine DrawW.plan Tok mixed (.q 0 <| .q 1 <| .q 2 <| .q 3 <| .q 4 <| .q 5 <| .q 6 <| .q 7 <| .q 8 <| .q 9 <| .q 10 <| .done) (by kernel_rfl) (by kernel_rfl) ?_
   simp only [↓sx0, sxE, encs, sevalprocAttr]
   refine IxW.nat g1 ?_
   simp only [↓sx0, sxE, encs, sevalprocAttr]
   refine IxW.nat g2 ?_
   simp only [↓sx0, sxE, encs, sevalprocAttr]
   refine BrW.dec (fun hne => ?_) (fun hne => ?_)
   ·simp only [↓sx0, sxE, encs, sevalprocAttr]
    have : ¬ l = m := fun h => hne (by subst h; rfl)
    refine EndW.fn ?_ ?_ <;> simp only [sx4, encs, kpLL_map, sxR, sevalprocAttr] <;> (try simp [this]) <;> (try omega)
   ·simp only [↓sx0, sxE, encs, sevalprocAttr]
    have he : l[k] = m[k] := by rw [eC_inj] at hne; exact Decidable.not_not.1 hne
    (with_reducible refine Vc.go ?_ fun _ => ?_); focus (first | omega | (simp only [InK]; omega) | (simp [InK]; done) | (simp [InK]; omega))
    simp only [↓sx0, sxE, encs, sevalprocAttr]
    refine ⟨k + 1, StLe.auto (by simp only [sx2, encs, sxR, sevalprocAttr] <;> (try simp) <;> (try omega)), ?_, ?_⟩
    ·exact ⟨g1, take_eq_succ g1 g2 ht he⟩
    ·omega
  ·simp only [↓sx0, sxE, encs, sevalprocAttr]
   have hke : k = l.length := by omega
   subst hke
   rw [List.take_length, hn2, List.take_length] at ht
   have e1 := Decidable.not_not.1 h1
   have e2 := Decidable.not_not.1 h2
   refine EndW.fn ?_ ?_ <;> simp only [sx4, encs, kpLL_map, sxR, sevalprocAttr] <;> (try simp [ht, e1, e2]) <;> (try omega)
theorem awake_s : Ctr Tryz.prog 5 [] (fun rr => rr = ⟨(.v (.bool (true))), []⟩) := by
 have s1 : schemeS 2 2 [⟨1, 1⟩, ⟨3, 1⟩] = (2, 2, [⟨7, 0, 8, 0⟩, ⟨6, 0, 5, 0⟩, ⟨2, 1, 1, 1⟩, ⟨3, 1, 4, 1⟩], 0) := by decide
 have s2 : creepS 4 10 5 = (10, 0) := by decide
 have s3 : sigS ⟨20, 8, [], []⟩ = ([⟨1, 8⟩, ⟨9, 16⟩, ⟨17, 20⟩], 4, 0) := by decide
 refine Ctr.of (rs := [.tmp 0]) Tok true Tryz.func5 rfl rfl rfl rfl (by simp [ofDL]) (fun w0 kp => ?_)
 simp only [↓sx0, sxE, encs, sevalprocAttr]
 refine CallI.fn (quarto_s) (by simp only [sx3, encs, sxR, sevalprocAttr] <;> (try simp) <;> (try rfl)) ?_
 simp only [↓sx0, sxE, encs, sevalprocAttr]
 refine CallI.fn (scheme_s true 2 2 [⟨1, 1⟩, ⟨3, 1⟩] (by intro x hx; simp at hx; rcases hx with rfl | rfl <;> simp)) (by simp only [sx3, encs, sxR, sevalprocAttr] <;> (try simp) <;> (try rfl)) ?_
 simp only [↓sx0, sxE, encs, sevalprocAttr]
 refine CallI.fn (creep_s 4 10 5) (by simp only [sx3, encs, sxR, sevalprocAttr] <;> (try simp) <;> (try rfl)) ?_
 simp only [↓sx0, sxE, encs, sevalprocAttr]
 refine CallI.fn (sig_s true true ⟨20, 8, [], []⟩) (by simp only [sx3, encs, sxR, sevalprocAttr] <;> (try simp) <;> (try rfl)) ?_
 simp only [↓sx0, sxE, encs, sevalprocAttr]
 rw [s1, s2, s3]
 simp only [↓sx0, sxE, encs, sevalprocAttr]
 refine CallI.fn (same_s true false 2 2 2 2 [⟨7, 0, 8, 0⟩, ⟨6, 0, 5, 0⟩, ⟨2, 1, 1, 1⟩, ⟨3, 1, 4, 1⟩] [⟨7, 0, 8, 0⟩, ⟨6, 0, 5, 0⟩, ⟨2, 1, 1, 1⟩, ⟨3, 1, 4, 1⟩] (by simp)) (by simp only [sx3, encs, sxR, sevalprocAttr] <;> (try simp) <;> (try rfl)) ?_
 simp only [↓sx0, sxE, encs, sevalprocAttr]
 refine CallI.fn (ranges_s true false [⟨1, 8⟩, ⟨9, 16⟩, ⟨17, 20⟩] [⟨1, 8⟩, ⟨9, 16⟩, ⟨17, 20⟩] (by simp)) (by simp only [sx3, encs, sxR, sevalprocAttr] <;> (try simp) <;> (try rfl)) ?_
 simp only [↓sx0, sxE, encs, sevalprocAttr]
 refine EndW.fn ?_ ?_ <;> simp only [sx4, encs, kpLL_map, sxR, sevalprocAttr] <;> (try simp) <;> (try omega)
end Go.Proofs.YteajjcbinnjgaaaGreatDoor
