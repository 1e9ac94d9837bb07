/-
  Chapter 6, walks: books.
-/
import Derived.Test.YtfpkpokkgbobmaaVW10
namespace Go.Proofs.Ytfpkpokkgbobmaa
open Go Go.Vx
set_option linter.unusedSimpArgs false
set_option maxRecDepth 20000
structure Book where
  pages : Int
  per : Int
  plates : List Int
  cancels : List Int
/-- the first number of a list that is out of range, or not behind the one ahead of it. -/
def badO (st : Bool) : Option Int → Int → Bool
  | none, _ => false
  | some q, n => if st then decide (n ≤ q) else decide (n < q)
def scanO (lo hi : Int) (st : Bool) : Option Int → Nat → List Int → Option (Nat × Int)
  | _, _, [] => none
  | p, k, n :: l => if ¬ (lo ≤ n ∧ n ≤ hi) then some (k, 2) else if badO st p n = true then some (k, 9) else scanO lo hi st (some n) (k + 1) l
def prevK (l : List Int) : Nat → Option Int
  | 0 => none
  | k + 1 => l[k]?
def bookS (b : Book) : Int × Int :=
  if ¬ (1 ≤ b.pages ∧ b.pages ≤ 4000) then (0, 2) else if ¬ (2 ≤ b.per ∧ b.per ≤ 64) then (0, 2) else if b.per.tmod 2 ≠ 0 then (0, 3) else if 40 < b.plates.length then (0, 8) else
  match scanO 0 b.pages false none 0 b.plates with
  | some (k, e) => (k, e)
  | none => if 40 < b.cancels.length then (0, 8) else
    match scanO 1 b.pages true none 0 b.cancels with
    | some (k, e) => (k, e)
    | none => (0, 0)
theorem book_s (x x' : Bool) (b : Book) : Ctr Try.prog 32 [.agg [(.v (.int .i64 b.pages)), (.v (.int .i64 b.per)), .sl x 1 (b.plates.map eI), .sl x' 1 (b.cancels.map eI)]] (fun rr => rr = ⟨.tup [(.v (.int .i64 ((bookS b).1))), (.v (.int .i64 ((bookS b).2)))], []⟩) := by
  refine Ctr.of (rs := [.tmp 2, .tmp 3]) Tok true Try.func32 rfl rfl rfl rfl (by simp [ofDL]) (fun w0 kp => ?_)
  simp only [↓sxD, ↓sxP0, sxP1, sxF, sxA, sxS, sxK, encs, tys, sxN, sevalprocAttr, ne_eq, decide_true, decide_false]
  refine CallI.fn (within_s b.pages 1 4000) (by simp only [sxA, sxL, sxF, encs, sxN, sevalprocAttr, ne_eq, decide_true, decide_false] <;> (try simp)) ?_
  simp only [↓sxD, ↓sxP0, sxP1, sxF, sxA, sxS, sxK, encs, tys, sxN, sevalprocAttr, ne_eq, decide_true, decide_false]
  refine BrW.dec (fun p1 => ?_) (fun p1 => ?_)
  · simp only [↓sxD, ↓sxP0, sxP1, sxF, sxA, sxS, sxK, encs, tys, sxN, sevalprocAttr, ne_eq, decide_true, decide_false]
    refine CallI.fn (within_s b.per 2 64) (by simp only [sxA, sxL, sxF, encs, sxN, sevalprocAttr, ne_eq, decide_true, decide_false] <;> (try simp)) ?_
    simp only [↓sxD, ↓sxP0, sxP1, sxF, sxA, sxS, sxK, encs, tys, sxN, sevalprocAttr, ne_eq, decide_true, decide_false]
    refine BrW.dec (fun p2 => ?_) (fun p2 => ?_)
    · simp only [↓sxD, ↓sxP0, sxP1, sxF, sxA, sxS, sxK, encs, tys, sxN, sevalprocAttr, ne_eq, decide_true, decide_false]
      (with_reducible refine Vc.go ?_ fun _ => ?_); focus (first | omega | (simp only [InK]; omega) | (simp [InK]; done) | (simp [InK]; omega))
      simp only [↓sxD, ↓sxP0, sxP1, sxF, sxA, sxS, sxK, encs, tys, sxN, sevalprocAttr, ne_eq, decide_true, decide_false]
      refine BrW.dec (fun p3 => ?_) (fun p3 => ?_)
      · simp only [↓sxD, ↓sxP0, sxP1, sxF, sxA, sxS, sxK, encs, tys, sxN, sevalprocAttr, ne_eq, decide_true, decide_false]
        exact EndW.fn (by simp only [sxL, encs, kpLL_map, sxN, sevalprocAttr, ne_eq, decide_true, decide_false] <;> (try simp [bookS, p1, p2, p3]) <;> (try omega)) (by simp only [sxL, encs, kpLL_map, sxN, sevalprocAttr, ne_eq, decide_true, decide_false] <;> (try simp) <;> (try omega))
      · simp only [↓sxD, ↓sxP0, sxP1, sxF, sxA, sxS, sxK, encs, tys, sxN, sevalprocAttr, ne_eq, decide_true, decide_false]
        refine BrW.dec (fun p4 => ?_) (fun p4 => ?_)
        · simp only [↓sxD, ↓sxP0, sxP1, sxF, sxA, sxS, sxK, encs, tys, sxN, sevalprocAttr, ne_eq, decide_true, decide_false]
          have p4' : 40 < b.plates.length := by omega
          exact EndW.fn (by simp only [sxL, encs, kpLL_map, sxN, sevalprocAttr, ne_eq, decide_true, decide_false] <;> (try simp [bookS, p1, p2, p3, p4']) <;> (try omega)) (by simp only [sxL, encs, kpLL_map, sxN, sevalprocAttr, ne_eq, decide_true, decide_false] <;> (try simp) <;> (try omega))
        · simp only [↓sxD, ↓sxP0, sxP1, sxF, sxA, sxS, sxK, encs, tys, sxN, sevalprocAttr, ne_eq, decide_true, decide_false]
          have p4' : ¬ 40 < b.plates.length := by omega
          refine LoopW.comp [1, 30, 31, 32] (by simp only [sxS, sxL, sxF, encs, sxN, sevalprocAttr, ne_eq, decide_true, decide_false] <;> (try simp) <;> (try omega)) ?_
          simp only [sxS, sxF, sxN, sevalprocAttr, ne_eq, decide_true, decide_false]
          refine LoopW.up Tok (fun k : Nat => [(32, (.v (.int .i64 k)))]) (fun k => []) (fun k => []) (fun k => []) (fun k => k ≤ b.plates.length ∧ scanO 0 b.pages false none 0 b.plates = scanO 0 b.pages false (prevK b.plates k) k (b.plates.drop k)) (fun k => b.plates.length - k) (0) (by simp only [sxS, sxL, sxF, encs, sxN, sevalprocAttr, ne_eq, decide_true, decide_false] <;> (try simp) <;> (try omega)) ?_ ?_
          · exact ⟨by omega, by simp [prevK]⟩
          rintro k ⟨hk, hm⟩
          simp only [↓sxD, ↓sxP0, sxP1, sxF, sxA, sxS, sxK, encs, tys, sxN, sevalprocAttr, ne_eq, decide_true, decide_false]
          refine BrW.dec (fun hlt => ?_) (fun hlt => ?_)
          · simp only [↓sxD, ↓sxP0, sxP1, sxF, sxA, sxS, sxK, encs, tys, sxN, sevalprocAttr, ne_eq, decide_true, decide_false]
            have h1 : k < b.plates.length := by omega
            rw [List.drop_eq_getElem_cons h1] at hm
            simp only [scanO] at hm
            refine IxW.nat h1 ?_
            simp only [↓sxD, ↓sxP0, sxP1, sxF, sxA, sxS, sxK, encs, tys, sxN, sevalprocAttr, ne_eq, decide_true, decide_false]
            refine CallI.fn (within_s b.plates[k] 0 b.pages) (by simp only [sxA, sxL, sxF, encs, sxN, sevalprocAttr, ne_eq, decide_true, decide_false] <;> (try simp)) ?_
            simp only [↓sxD, ↓sxP0, sxP1, sxF, sxA, sxS, sxK, encs, tys, sxN, sevalprocAttr, ne_eq, decide_true, decide_false]
            refine BrW.dec (fun hin => ?_) (fun hin => ?_)
            · rw [if_neg (fun h => h hin)] at hm
              simp only [↓sxD, ↓sxP0, sxP1, sxF, sxA, sxS, sxK, encs, tys, sxN, sevalprocAttr, ne_eq, decide_true, decide_false]
              match k, hk, h1, hm, hin with
              | 0, hk, h1, hm, hin =>
                rw [if_neg (by simp [badO, prevK])] at hm
                refine BrW.no (by omega) ?_
                simp only [↓sxD, ↓sxP0, sxP1, sxF, sxA, sxS, sxK, encs, tys, sxN, sevalprocAttr, ne_eq, decide_true, decide_false]
                (with_reducible refine Vc.go ?_ fun _ => ?_); focus (first | omega | (simp only [InK]; omega) | (simp [InK]; done) | (simp [InK]; omega))
                simp only [↓sxD, ↓sxP0, sxP1, sxF, sxA, sxS, sxK, encs, tys, sxN, sevalprocAttr, ne_eq, decide_true, decide_false]
                refine ⟨1, StLe.auto (by simp only [sxS, sxL, sxF, encs, sxN, sevalprocAttr, ne_eq, decide_true, decide_false] <;> (try simp) <;> (try omega)), ?_, ?_⟩
                · exact ⟨h1, by rw [show prevK b.plates 1 = some b.plates[0] from List.getElem?_eq_getElem h1]; exact hm⟩
                · omega
              | j + 1, hk, h1, hm, hin =>
                have hj : j < b.plates.length := by omega
                have hp : prevK b.plates (j + 1) = some b.plates[j] := List.getElem?_eq_getElem hj
                rw [hp] at hm
                simp only [badO, Bool.false_eq_true, if_false, if_true] at hm
                refine BrW.yes (by omega) ?_
                simp only [↓sxD, ↓sxP0, sxP1, sxF, sxA, sxS, sxK, encs, tys, sxN, sevalprocAttr, ne_eq, decide_true, decide_false]
                (with_reducible refine Vc.go ?_ fun _ => ?_); focus (first | omega | (simp only [InK]; omega) | (simp [InK]; done) | (simp [InK]; omega))
                simp only [↓sxD, ↓sxP0, sxP1, sxF, sxA, sxS, sxK, encs, tys, sxN, sevalprocAttr, ne_eq, decide_true, decide_false]
                refine IxW.map b.plates[j] (by omega) (by rw [show (((j + 1 : Nat) : Int) - 1).toNat = j by omega]; exact List.getElem?_eq_getElem hj) ?_
                simp only [↓sxD, ↓sxP0, sxP1, sxF, sxA, sxS, sxK, encs, tys, sxN, sevalprocAttr, ne_eq, decide_true, decide_false]
                refine BrW.dec (fun hb => ?_) (fun hb => ?_)
                · rw [if_pos (by simpa using hb)] at hm
                  simp only [↓sxD, ↓sxP0, sxP1, sxF, sxA, sxS, sxK, encs, tys, sxN, sevalprocAttr, ne_eq, decide_true, decide_false]
                  exact EndW.fn (by simp only [sxL, encs, kpLL_map, sxN, sevalprocAttr, ne_eq, decide_true, decide_false] <;> (try simp [bookS, p1, p2, p3, p4', hm]) <;> (try omega)) (by simp only [sxL, encs, kpLL_map, sxN, sevalprocAttr, ne_eq, decide_true, decide_false] <;> (try simp) <;> (try omega))
                · rw [if_neg (by simpa using hb)] at hm
                  simp only [↓sxD, ↓sxP0, sxP1, sxF, sxA, sxS, sxK, encs, tys, sxN, sevalprocAttr, ne_eq, decide_true, decide_false]
                  (with_reducible refine Vc.go ?_ fun _ => ?_); focus (first | omega | (simp only [InK]; omega) | (simp [InK]; done) | (simp [InK]; omega))
                  simp only [↓sxD, ↓sxP0, sxP1, sxF, sxA, sxS, sxK, encs, tys, sxN, sevalprocAttr, ne_eq, decide_true, decide_false]
                  refine ⟨j + 1 + 1, StLe.auto (by simp only [sxS, sxL, sxF, encs, sxN, sevalprocAttr, ne_eq, decide_true, decide_false] <;> (try simp) <;> (try omega)), ?_, ?_⟩
                  · exact ⟨h1, by rw [show prevK b.plates (j + 1 + 1) = some b.plates[j + 1] from List.getElem?_eq_getElem h1]; exact hm⟩
                  · omega
            · rw [if_pos hin] at hm
              simp only [↓sxD, ↓sxP0, sxP1, sxF, sxA, sxS, sxK, encs, tys, sxN, sevalprocAttr, ne_eq, decide_true, decide_false]
              exact EndW.fn (by simp only [sxL, encs, kpLL_map, sxN, sevalprocAttr, ne_eq, decide_true, decide_false] <;> (try simp [bookS, p1, p2, p3, p4', hm]) <;> (try omega)) (by simp only [sxL, encs, kpLL_map, sxN, sevalprocAttr, ne_eq, decide_true, decide_false] <;> (try simp) <;> (try omega))
          · simp only [↓sxD, ↓sxP0, sxP1, sxF, sxA, sxS, sxK, encs, tys, sxN, sevalprocAttr, ne_eq, decide_true, decide_false]
            have hke : k = b.plates.length := by omega
            subst hke
            rw [List.drop_length] at hm
            simp only [scanO] at hm
            clear hk hlt
            have q1 := hm
            clear hm
            refine BrW.dec (fun p5 => ?_) (fun p5 => ?_)
            · simp only [↓sxD, ↓sxP0, sxP1, sxF, sxA, sxS, sxK, encs, tys, sxN, sevalprocAttr, ne_eq, decide_true, decide_false]
              have p5' : 40 < b.cancels.length := by omega
              exact EndW.fn (by simp only [sxL, encs, kpLL_map, sxN, sevalprocAttr, ne_eq, decide_true, decide_false] <;> (try simp [bookS, p1, p2, p3, p4', q1, p5']) <;> (try omega)) (by simp only [sxL, encs, kpLL_map, sxN, sevalprocAttr, ne_eq, decide_true, decide_false] <;> (try simp) <;> (try omega))
            · simp only [↓sxD, ↓sxP0, sxP1, sxF, sxA, sxS, sxK, encs, tys, sxN, sevalprocAttr, ne_eq, decide_true, decide_false]
              have p5' : ¬ 40 < b.cancels.length := by omega
              refine LoopW.comp [1, 64, 65, 66] (by simp only [sxS, sxL, sxF, encs, sxN, sevalprocAttr, ne_eq, decide_true, decide_false] <;> (try simp) <;> (try omega)) ?_
              simp only [sxS, sxF, sxN, sevalprocAttr, ne_eq, decide_true, decide_false]
              refine LoopW.up Tok (fun k : Nat => [(66, (.v (.int .i64 k)))]) (fun k => []) (fun k => []) (fun k => []) (fun k => k ≤ b.cancels.length ∧ scanO 1 b.pages true none 0 b.cancels = scanO 1 b.pages true (prevK b.cancels k) k (b.cancels.drop k)) (fun k => b.cancels.length - k) (0) (by simp only [sxS, sxL, sxF, encs, sxN, sevalprocAttr, ne_eq, decide_true, decide_false] <;> (try simp) <;> (try omega)) ?_ ?_
              · exact ⟨by omega, by simp [prevK]⟩
              rintro k ⟨hk, hm⟩
              simp only [↓sxD, ↓sxP0, sxP1, sxF, sxA, sxS, sxK, encs, tys, sxN, sevalprocAttr, ne_eq, decide_true, decide_false]
              refine BrW.dec (fun hlt => ?_) (fun hlt => ?_)
              · simp only [↓sxD, ↓sxP0, sxP1, sxF, sxA, sxS, sxK, encs, tys, sxN, sevalprocAttr, ne_eq, decide_true, decide_false]
                have h1 : k < b.cancels.length := by omega
                rw [List.drop_eq_getElem_cons h1] at hm
                simp only [scanO] at hm
                refine IxW.nat h1 ?_
                simp only [↓sxD, ↓sxP0, sxP1, sxF, sxA, sxS, sxK, encs, tys, sxN, sevalprocAttr, ne_eq, decide_true, decide_false]
                refine CallI.fn (within_s b.cancels[k] 1 b.pages) (by simp only [sxA, sxL, sxF, encs, sxN, sevalprocAttr, ne_eq, decide_true, decide_false] <;> (try simp)) ?_
                simp only [↓sxD, ↓sxP0, sxP1, sxF, sxA, sxS, sxK, encs, tys, sxN, sevalprocAttr, ne_eq, decide_true, decide_false]
                refine BrW.dec (fun hin => ?_) (fun hin => ?_)
                · rw [if_neg (fun h => h hin)] at hm
                  simp only [↓sxD, ↓sxP0, sxP1, sxF, sxA, sxS, sxK, encs, tys, sxN, sevalprocAttr, ne_eq, decide_true, decide_false]
                  match k, hk, h1, hm, hin with
                  | 0, hk, h1, hm, hin =>
                    rw [if_neg (by simp [badO, prevK])] at hm
                    refine BrW.no (by omega) ?_
                    simp only [↓sxD, ↓sxP0, sxP1, sxF, sxA, sxS, sxK, encs, tys, sxN, sevalprocAttr, ne_eq, decide_true, decide_false]
                    (with_reducible refine Vc.go ?_ fun _ => ?_); focus (first | omega | (simp only [InK]; omega) | (simp [InK]; done) | (simp [InK]; omega))
                    simp only [↓sxD, ↓sxP0, sxP1, sxF, sxA, sxS, sxK, encs, tys, sxN, sevalprocAttr, ne_eq, decide_true, decide_false]
                    refine ⟨1, StLe.auto (by simp only [sxS, sxL, sxF, encs, sxN, sevalprocAttr, ne_eq, decide_true, decide_false] <;> (try simp) <;> (try omega)), ?_, ?_⟩
                    · exact ⟨h1, by rw [show prevK b.cancels 1 = some b.cancels[0] from List.getElem?_eq_getElem h1]; exact hm⟩
                    · omega
                  | j + 1, hk, h1, hm, hin =>
                    have hj : j < b.cancels.length := by omega
                    have hp : prevK b.cancels (j + 1) = some b.cancels[j] := List.getElem?_eq_getElem hj
                    rw [hp] at hm
                    simp only [badO, Bool.false_eq_true, if_false, if_true] at hm
                    refine BrW.yes (by omega) ?_
                    simp only [↓sxD, ↓sxP0, sxP1, sxF, sxA, sxS, sxK, encs, tys, sxN, sevalprocAttr, ne_eq, decide_true, decide_false]
                    (with_reducible refine Vc.go ?_ fun _ => ?_); focus (first | omega | (simp only [InK]; omega) | (simp [InK]; done) | (simp [InK]; omega))
                    simp only [↓sxD, ↓sxP0, sxP1, sxF, sxA, sxS, sxK, encs, tys, sxN, sevalprocAttr, ne_eq, decide_true, decide_false]
                    refine IxW.map b.cancels[j] (by omega) (by rw [show (((j + 1 : Nat) : Int) - 1).toNat = j by omega]; exact List.getElem?_eq_getElem hj) ?_
                    simp only [↓sxD, ↓sxP0, sxP1, sxF, sxA, sxS, sxK, encs, tys, sxN, sevalprocAttr, ne_eq, decide_true, decide_false]
                    refine BrW.dec (fun hb => ?_) (fun hb => ?_)
                    · rw [if_pos (by simpa using hb)] at hm
                      simp only [↓sxD, ↓sxP0, sxP1, sxF, sxA, sxS, sxK, encs, tys, sxN, sevalprocAttr, ne_eq, decide_true, decide_false]
                      exact EndW.fn (by simp only [sxL, encs, kpLL_map, sxN, sevalprocAttr, ne_eq, decide_true, decide_false] <;> (try simp [bookS, p1, p2, p3, p4', q1, p5', hm]) <;> (try omega)) (by simp only [sxL, encs, kpLL_map, sxN, sevalprocAttr, ne_eq, decide_true, decide_false] <;> (try simp) <;> (try omega))
                    · rw [if_neg (by simpa using hb)] at hm
                      simp only [↓sxD, ↓sxP0, sxP1, sxF, sxA, sxS, sxK, encs, tys, sxN, sevalprocAttr, ne_eq, decide_true, decide_false]
                      (with_reducible refine Vc.go ?_ fun _ => ?_); focus (first | omega | (simp only [InK]; omega) | (simp [InK]; done) | (simp [InK]; omega))
                      simp only [↓sxD, ↓sxP0, sxP1, sxF, sxA, sxS, sxK, encs, tys, sxN, sevalprocAttr, ne_eq, decide_true, decide_false]
                      refine ⟨j + 1 + 1, StLe.auto (by simp only [sxS, sxL, sxF, encs, sxN, sevalprocAttr, ne_eq, decide_true, decide_false] <;> (try simp) <;> (try omega)), ?_, ?_⟩
                      · exact ⟨h1, by rw [show prevK b.cancels (j + 1 + 1) = some b.cancels[j + 1] from List.getElem?_eq_getElem h1]; exact hm⟩
                      · omega
                · rw [if_pos hin] at hm
                  simp only [↓sxD, ↓sxP0, sxP1, sxF, sxA, sxS, sxK, encs, tys, sxN, sevalprocAttr, ne_eq, decide_true, decide_false]
                  exact EndW.fn (by simp only [sxL, encs, kpLL_map, sxN, sevalprocAttr, ne_eq, decide_true, decide_false] <;> (try simp [bookS, p1, p2, p3, p4', q1, p5', hm]) <;> (try omega)) (by simp only [sxL, encs, kpLL_map, sxN, sevalprocAttr, ne_eq, decide_true, decide_false] <;> (try simp) <;> (try omega))
              · simp only [↓sxD, ↓sxP0, sxP1, sxF, sxA, sxS, sxK, encs, tys, sxN, sevalprocAttr, ne_eq, decide_true, decide_false]
                have hke : k = b.cancels.length := by omega
                subst hke
                rw [List.drop_length] at hm
                simp only [scanO] at hm
                clear hk hlt
                exact EndW.fn (by simp only [sxL, encs, kpLL_map, sxN, sevalprocAttr, ne_eq, decide_true, decide_false] <;> (try simp [bookS, p1, p2, p3, p4', q1, p5', hm]) <;> (try omega)) (by simp only [sxL, encs, kpLL_map, sxN, sevalprocAttr, ne_eq, decide_true, decide_false] <;> (try simp) <;> (try omega))
    · simp only [↓sxD, ↓sxP0, sxP1, sxF, sxA, sxS, sxK, encs, tys, sxN, sevalprocAttr, ne_eq, decide_true, decide_false]
      exact EndW.fn (by simp only [sxL, encs, kpLL_map, sxN, sevalprocAttr, ne_eq, decide_true, decide_false] <;> (try simp [bookS, p1, p2]) <;> (try omega)) (by simp only [sxL, encs, kpLL_map, sxN, sevalprocAttr, ne_eq, decide_true, decide_false] <;> (try simp) <;> (try omega))
  · simp only [↓sxD, ↓sxP0, sxP1, sxF, sxA, sxS, sxK, encs, tys, sxN, sevalprocAttr, ne_eq, decide_true, decide_false]
    exact EndW.fn (by simp only [sxL, encs, kpLL_map, sxN, sevalprocAttr, ne_eq, decide_true, decide_false] <;> (try simp [bookS, p1]) <;> (try omega)) (by simp only [sxL, encs, kpLL_map, sxN, sevalprocAttr, ne_eq, decide_true, decide_false] <;> (try simp) <;> (try omega))
theorem bookR_s (x x' : Bool) (b : Book) : Ctr Try.prog 36 [.agg [(.v (.int .i64 b.pages)), (.v (.int .i64 b.per)), .sl x 1 (b.plates.map eI), .sl x' 1 (b.cancels.map eI)]] (fun rr => rr = ⟨.tup [(.v (.int .i64 ((bookS b).1))), (.v (.int .i64 ((bookS b).2)))], []⟩) := by
  refine Ctr.of (rs := [.tmp 2, .tmp 3]) Tok true Try.func36 rfl rfl rfl rfl (by simp [ofDL]) (fun w0 kp => ?_)
  simp only [↓sxD, ↓sxP0, sxP1, sxF, sxA, sxS, sxK, encs, tys, sxN, sevalprocAttr, ne_eq, decide_true, decide_false]
  refine CallI.fn (withinB_s b.pages 1 4000) (by simp only [sxA, sxL, sxF, encs, sxN, sevalprocAttr, ne_eq, decide_true, decide_false] <;> (try simp)) ?_
  simp only [↓sxD, ↓sxP0, sxP1, sxF, sxA, sxS, sxK, encs, tys, sxN, sevalprocAttr, ne_eq, decide_true, decide_false]
  refine BrW.dec (fun p1 => ?_) (fun p1 => ?_)
  · simp only [↓sxD, ↓sxP0, sxP1, sxF, sxA, sxS, sxK, encs, tys, sxN, sevalprocAttr, ne_eq, decide_true, decide_false]
    refine CallI.fn (withinB_s b.per 2 64) (by simp only [sxA, sxL, sxF, encs, sxN, sevalprocAttr, ne_eq, decide_true, decide_false] <;> (try simp)) ?_
    simp only [↓sxD, ↓sxP0, sxP1, sxF, sxA, sxS, sxK, encs, tys, sxN, sevalprocAttr, ne_eq, decide_true, decide_false]
    refine BrW.dec (fun p2 => ?_) (fun p2 => ?_)
    · simp only [↓sxD, ↓sxP0, sxP1, sxF, sxA, sxS, sxK, encs, tys, sxN, sevalprocAttr, ne_eq, decide_true, decide_false]
      (with_reducible refine Vc.go ?_ fun _ => ?_); focus (first | omega | (simp only [InK]; omega) | (simp [InK]; done) | (simp [InK]; omega))
      simp only [↓sxD, ↓sxP0, sxP1, sxF, sxA, sxS, sxK, encs, tys, sxN, sevalprocAttr, ne_eq, decide_true, decide_false]
      refine BrW.dec (fun p3 => ?_) (fun p3 => ?_)
      · simp only [↓sxD, ↓sxP0, sxP1, sxF, sxA, sxS, sxK, encs, tys, sxN, sevalprocAttr, ne_eq, decide_true, decide_false]
        exact EndW.fn (by simp only [sxL, encs, kpLL_map, sxN, sevalprocAttr, ne_eq, decide_true, decide_false] <;> (try simp [bookS, p1, p2, p3]) <;> (try omega)) (by simp only [sxL, encs, kpLL_map, sxN, sevalprocAttr, ne_eq, decide_true, decide_false] <;> (try simp) <;> (try omega))
      · simp only [↓sxD, ↓sxP0, sxP1, sxF, sxA, sxS, sxK, encs, tys, sxN, sevalprocAttr, ne_eq, decide_true, decide_false]
        refine BrW.dec (fun p4 => ?_) (fun p4 => ?_)
        · simp only [↓sxD, ↓sxP0, sxP1, sxF, sxA, sxS, sxK, encs, tys, sxN, sevalprocAttr, ne_eq, decide_true, decide_false]
          have p4' : 40 < b.plates.length := by omega
          exact EndW.fn (by simp only [sxL, encs, kpLL_map, sxN, sevalprocAttr, ne_eq, decide_true, decide_false] <;> (try simp [bookS, p1, p2, p3, p4']) <;> (try omega)) (by simp only [sxL, encs, kpLL_map, sxN, sevalprocAttr, ne_eq, decide_true, decide_false] <;> (try simp) <;> (try omega))
        · simp only [↓sxD, ↓sxP0, sxP1, sxF, sxA, sxS, sxK, encs, tys, sxN, sevalprocAttr, ne_eq, decide_true, decide_false]
          have p4' : ¬ 40 < b.plates.length := by omega
          refine LoopW.comp [1, 4] (by simp only [sxS, sxL, sxF, encs, sxN, sevalprocAttr, ne_eq, decide_true, decide_false] <;> (try simp) <;> (try omega)) ?_
          simp only [sxS, sxF, sxN, sevalprocAttr, ne_eq, decide_true, decide_false]
          refine LoopW.up Tok (fun k : Nat => [(4, (.v (.int .i64 k)))]) (fun k => []) (fun k => []) (fun k => []) (fun k => k ≤ b.plates.length ∧ scanO 0 b.pages false none 0 b.plates = scanO 0 b.pages false (prevK b.plates k) k (b.plates.drop k)) (fun k => b.plates.length - k) (0) (by simp only [sxS, sxL, sxF, encs, sxN, sevalprocAttr, ne_eq, decide_true, decide_false] <;> (try simp) <;> (try omega)) ?_ ?_
          · exact ⟨by omega, by simp [prevK]⟩
          rintro k ⟨hk, hm⟩
          simp only [↓sxD, ↓sxP0, sxP1, sxF, sxA, sxS, sxK, encs, tys, sxN, sevalprocAttr, ne_eq, decide_true, decide_false]
          refine BrW.dec (fun hlt => ?_) (fun hlt => ?_)
          · simp only [↓sxD, ↓sxP0, sxP1, sxF, sxA, sxS, sxK, encs, tys, sxN, sevalprocAttr, ne_eq, decide_true, decide_false]
            have h1 : k < b.plates.length := by omega
            rw [List.drop_eq_getElem_cons h1] at hm
            simp only [scanO] at hm
            refine DrawW.plan Tok mixed (.q 0 <| .q 1 <| .q 2 <| .q 3 <| .q 4 <| .q 5 <| .q 6 <| .e 7 [] <| .q 8 <| .done) (by kernel_rfl) (by kernel_rfl) ?_
            simp only [↓sxD, ↓sxP0, sxP1, sxF, sxA, sxS, sxK, encs, tys, sxN, sevalprocAttr, ne_eq, decide_true, decide_false]
            refine IxW.nat h1 ?_
            simp only [↓sxD, ↓sxP0, sxP1, sxF, sxA, sxS, sxK, encs, tys, sxN, sevalprocAttr, ne_eq, decide_true, decide_false]
            refine CallI.fn (withinB_s b.plates[k] 0 b.pages) (by simp only [sxA, sxL, sxF, encs, sxN, sevalprocAttr, ne_eq, decide_true, decide_false] <;> (try simp)) ?_
            simp only [↓sxD, ↓sxP0, sxP1, sxF, sxA, sxS, sxK, encs, tys, sxN, sevalprocAttr, ne_eq, decide_true, decide_false]
            refine BrW.dec (fun hin => ?_) (fun hin => ?_)
            · rw [if_neg (fun h => h hin)] at hm
              simp only [↓sxD, ↓sxP0, sxP1, sxF, sxA, sxS, sxK, encs, tys, sxN, sevalprocAttr, ne_eq, decide_true, decide_false]
              refine DrawW.plan Tok mixed (.q 0 <| .q 1 <| .q 2 <| .q 3 <| .q 4 <| .q 5 <| .q 6 <| .q 7 <| .q 8 <| .q 9 <| .q 10 <| .q 11 <| .q 12 <| .q 13 <| .q 14 <| .q 15 <| .done) (by kernel_rfl) (by kernel_rfl) ?_
              simp only [↓sxD, ↓sxP0, sxP1, sxF, sxA, sxS, sxK, encs, tys, sxN, sevalprocAttr, ne_eq, decide_true, decide_false]
              match k, hk, h1, hm, hin with
              | 0, hk, h1, hm, hin =>
                rw [if_neg (by simp [badO, prevK])] at hm
                refine BrW.no (by omega) ?_
                simp only [↓sxD, ↓sxP0, sxP1, sxF, sxA, sxS, sxK, encs, tys, sxN, sevalprocAttr, ne_eq, decide_true, decide_false]
                (with_reducible refine Vc.go ?_ fun _ => ?_); focus (first | omega | (simp only [InK]; omega) | (simp [InK]; done) | (simp [InK]; omega))
                simp only [↓sxD, ↓sxP0, sxP1, sxF, sxA, sxS, sxK, encs, tys, sxN, sevalprocAttr, ne_eq, decide_true, decide_false]
                refine ⟨1, StLe.auto (by simp only [sxS, sxL, sxF, encs, sxN, sevalprocAttr, ne_eq, decide_true, decide_false] <;> (try simp) <;> (try omega)), ?_, ?_⟩
                · exact ⟨h1, by rw [show prevK b.plates 1 = some b.plates[0] from List.getElem?_eq_getElem h1]; exact hm⟩
                · omega
              | j + 1, hk, h1, hm, hin =>
                have hj : j < b.plates.length := by omega
                have hp : prevK b.plates (j + 1) = some b.plates[j] := List.getElem?_eq_getElem hj
                rw [hp] at hm
                simp only [badO, Bool.false_eq_true, if_false, if_true] at hm
                refine BrW.yes (by omega) ?_
                simp only [↓sxD, ↓sxP0, sxP1, sxF, sxA, sxS, sxK, encs, tys, sxN, sevalprocAttr, ne_eq, decide_true, decide_false]
                refine IxW.nat h1 ?_
                simp only [↓sxD, ↓sxP0, sxP1, sxF, sxA, sxS, sxK, encs, tys, sxN, sevalprocAttr, ne_eq, decide_true, decide_false]
                (with_reducible refine Vc.go ?_ fun _ => ?_); focus (first | omega | (simp only [InK]; omega) | (simp [InK]; done) | (simp [InK]; omega))
                simp only [↓sxD, ↓sxP0, sxP1, sxF, sxA, sxS, sxK, encs, tys, sxN, sevalprocAttr, ne_eq, decide_true, decide_false]
                refine IxW.map b.plates[j] (by omega) (by rw [show (((j + 1 : Nat) : Int) - 1).toNat = j by omega]; exact List.getElem?_eq_getElem hj) ?_
                simp only [↓sxD, ↓sxP0, sxP1, sxF, sxA, sxS, sxK, encs, tys, sxN, sevalprocAttr, ne_eq, decide_true, decide_false]
                refine BrW.dec (fun hb => ?_) (fun hb => ?_)
                · rw [if_pos (by simpa using hb)] at hm
                  simp only [↓sxD, ↓sxP0, sxP1, sxF, sxA, sxS, sxK, encs, tys, sxN, sevalprocAttr, ne_eq, decide_true, decide_false]
                  exact EndW.fn (by simp only [sxL, encs, kpLL_map, sxN, sevalprocAttr, ne_eq, decide_true, decide_false] <;> (try simp [bookS, p1, p2, p3, p4', hm]) <;> (try omega)) (by simp only [sxL, encs, kpLL_map, sxN, sevalprocAttr, ne_eq, decide_true, decide_false] <;> (try simp) <;> (try omega))
                · rw [if_neg (by simpa using hb)] at hm
                  simp only [↓sxD, ↓sxP0, sxP1, sxF, sxA, sxS, sxK, encs, tys, sxN, sevalprocAttr, ne_eq, decide_true, decide_false]
                  (with_reducible refine Vc.go ?_ fun _ => ?_); focus (first | omega | (simp only [InK]; omega) | (simp [InK]; done) | (simp [InK]; omega))
                  simp only [↓sxD, ↓sxP0, sxP1, sxF, sxA, sxS, sxK, encs, tys, sxN, sevalprocAttr, ne_eq, decide_true, decide_false]
                  refine ⟨j + 1 + 1, StLe.auto (by simp only [sxS, sxL, sxF, encs, sxN, sevalprocAttr, ne_eq, decide_true, decide_false] <;> (try simp) <;> (try omega)), ?_, ?_⟩
                  · exact ⟨h1, by rw [show prevK b.plates (j + 1 + 1) = some b.plates[j + 1] from List.getElem?_eq_getElem h1]; exact hm⟩
                  · omega
            · rw [if_pos hin] at hm
              simp only [↓sxD, ↓sxP0, sxP1, sxF, sxA, sxS, sxK, encs, tys, sxN, sevalprocAttr, ne_eq, decide_true, decide_false]
              exact EndW.fn (by simp only [sxL, encs, kpLL_map, sxN, sevalprocAttr, ne_eq, decide_true, decide_false] <;> (try simp [bookS, p1, p2, p3, p4', hm]) <;> (try omega)) (by simp only [sxL, encs, kpLL_map, sxN, sevalprocAttr, ne_eq, decide_true, decide_false] <;> (try simp) <;> (try omega))
          · simp only [↓sxD, ↓sxP0, sxP1, sxF, sxA, sxS, sxK, encs, tys, sxN, sevalprocAttr, ne_eq, decide_true, decide_false]
            have hke : k = b.plates.length := by omega
            subst hke
            rw [List.drop_length] at hm
            simp only [scanO] at hm
            clear hk hlt
            have q1 := hm
            clear hm
            refine BrW.dec (fun p5 => ?_) (fun p5 => ?_)
            · simp only [↓sxD, ↓sxP0, sxP1, sxF, sxA, sxS, sxK, encs, tys, sxN, sevalprocAttr, ne_eq, decide_true, decide_false]
              have p5' : 40 < b.cancels.length := by omega
              exact EndW.fn (by simp only [sxL, encs, kpLL_map, sxN, sevalprocAttr, ne_eq, decide_true, decide_false] <;> (try simp [bookS, p1, p2, p3, p4', q1, p5']) <;> (try omega)) (by simp only [sxL, encs, kpLL_map, sxN, sevalprocAttr, ne_eq, decide_true, decide_false] <;> (try simp) <;> (try omega))
            · simp only [↓sxD, ↓sxP0, sxP1, sxF, sxA, sxS, sxK, encs, tys, sxN, sevalprocAttr, ne_eq, decide_true, decide_false]
              have p5' : ¬ 40 < b.cancels.length := by omega
              refine LoopW.comp [1, 5] (by simp only [sxS, sxL, sxF, encs, sxN, sevalprocAttr, ne_eq, decide_true, decide_false] <;> (try simp) <;> (try omega)) ?_
              simp only [sxS, sxF, sxN, sevalprocAttr, ne_eq, decide_true, decide_false]
              refine LoopW.up Tok (fun k : Nat => [(5, (.v (.int .i64 k)))]) (fun k => []) (fun k => []) (fun k => []) (fun k => k ≤ b.cancels.length ∧ scanO 1 b.pages true none 0 b.cancels = scanO 1 b.pages true (prevK b.cancels k) k (b.cancels.drop k)) (fun k => b.cancels.length - k) (0) (by simp only [sxS, sxL, sxF, encs, sxN, sevalprocAttr, ne_eq, decide_true, decide_false] <;> (try simp) <;> (try omega)) ?_ ?_
              · exact ⟨by omega, by simp [prevK]⟩
              rintro k ⟨hk, hm⟩
              simp only [↓sxD, ↓sxP0, sxP1, sxF, sxA, sxS, sxK, encs, tys, sxN, sevalprocAttr, ne_eq, decide_true, decide_false]
              refine BrW.dec (fun hlt => ?_) (fun hlt => ?_)
              · simp only [↓sxD, ↓sxP0, sxP1, sxF, sxA, sxS, sxK, encs, tys, sxN, sevalprocAttr, ne_eq, decide_true, decide_false]
                have h1 : k < b.cancels.length := by omega
                rw [List.drop_eq_getElem_cons h1] at hm
                simp only [scanO] at hm
                refine DrawW.plan Tok mixed (.q 0 <| .q 1 <| .q 2 <| .q 3 <| .q 4 <| .q 5 <| .q 6 <| .e 7 [] <| .q 8 <| .done) (by kernel_rfl) (by kernel_rfl) ?_
                simp only [↓sxD, ↓sxP0, sxP1, sxF, sxA, sxS, sxK, encs, tys, sxN, sevalprocAttr, ne_eq, decide_true, decide_false]
                refine IxW.nat h1 ?_
                simp only [↓sxD, ↓sxP0, sxP1, sxF, sxA, sxS, sxK, encs, tys, sxN, sevalprocAttr, ne_eq, decide_true, decide_false]
                refine CallI.fn (withinB_s b.cancels[k] 1 b.pages) (by simp only [sxA, sxL, sxF, encs, sxN, sevalprocAttr, ne_eq, decide_true, decide_false] <;> (try simp)) ?_
                simp only [↓sxD, ↓sxP0, sxP1, sxF, sxA, sxS, sxK, encs, tys, sxN, sevalprocAttr, ne_eq, decide_true, decide_false]
                refine BrW.dec (fun hin => ?_) (fun hin => ?_)
                · rw [if_neg (fun h => h hin)] at hm
                  simp only [↓sxD, ↓sxP0, sxP1, sxF, sxA, sxS, sxK, encs, tys, sxN, sevalprocAttr, ne_eq, decide_true, decide_false]
                  refine DrawW.plan Tok mixed (.q 0 <| .q 1 <| .q 2 <| .q 3 <| .q 4 <| .q 5 <| .q 6 <| .q 7 <| .q 8 <| .q 9 <| .q 10 <| .q 11 <| .q 12 <| .q 13 <| .q 14 <| .q 15 <| .done) (by kernel_rfl) (by kernel_rfl) ?_
                  simp only [↓sxD, ↓sxP0, sxP1, sxF, sxA, sxS, sxK, encs, tys, sxN, sevalprocAttr, ne_eq, decide_true, decide_false]
                  match k, hk, h1, hm, hin with
                  | 0, hk, h1, hm, hin =>
                    rw [if_neg (by simp [badO, prevK])] at hm
                    refine BrW.no (by omega) ?_
                    simp only [↓sxD, ↓sxP0, sxP1, sxF, sxA, sxS, sxK, encs, tys, sxN, sevalprocAttr, ne_eq, decide_true, decide_false]
                    (with_reducible refine Vc.go ?_ fun _ => ?_); focus (first | omega | (simp only [InK]; omega) | (simp [InK]; done) | (simp [InK]; omega))
                    simp only [↓sxD, ↓sxP0, sxP1, sxF, sxA, sxS, sxK, encs, tys, sxN, sevalprocAttr, ne_eq, decide_true, decide_false]
                    refine ⟨1, StLe.auto (by simp only [sxS, sxL, sxF, encs, sxN, sevalprocAttr, ne_eq, decide_true, decide_false] <;> (try simp) <;> (try omega)), ?_, ?_⟩
                    · exact ⟨h1, by rw [show prevK b.cancels 1 = some b.cancels[0] from List.getElem?_eq_getElem h1]; exact hm⟩
                    · omega
                  | j + 1, hk, h1, hm, hin =>
                    have hj : j < b.cancels.length := by omega
                    have hp : prevK b.cancels (j + 1) = some b.cancels[j] := List.getElem?_eq_getElem hj
                    rw [hp] at hm
                    simp only [badO, Bool.false_eq_true, if_false, if_true] at hm
                    refine BrW.yes (by omega) ?_
                    simp only [↓sxD, ↓sxP0, sxP1, sxF, sxA, sxS, sxK, encs, tys, sxN, sevalprocAttr, ne_eq, decide_true, decide_false]
                    refine IxW.nat h1 ?_
                    simp only [↓sxD, ↓sxP0, sxP1, sxF, sxA, sxS, sxK, encs, tys, sxN, sevalprocAttr, ne_eq, decide_true, decide_false]
                    (with_reducible refine Vc.go ?_ fun _ => ?_); focus (first | omega | (simp only [InK]; omega) | (simp [InK]; done) | (simp [InK]; omega))
                    simp only [↓sxD, ↓sxP0, sxP1, sxF, sxA, sxS, sxK, encs, tys, sxN, sevalprocAttr, ne_eq, decide_true, decide_false]
                    refine IxW.map b.cancels[j] (by omega) (by rw [show (((j + 1 : Nat) : Int) - 1).toNat = j by omega]; exact List.getElem?_eq_getElem hj) ?_
                    simp only [↓sxD, ↓sxP0, sxP1, sxF, sxA, sxS, sxK, encs, tys, sxN, sevalprocAttr, ne_eq, decide_true, decide_false]
                    refine BrW.dec (fun hb => ?_) (fun hb => ?_)
                    · rw [if_pos (by simpa using hb)] at hm
                      simp only [↓sxD, ↓sxP0, sxP1, sxF, sxA, sxS, sxK, encs, tys, sxN, sevalprocAttr, ne_eq, decide_true, decide_false]
                      exact EndW.fn (by simp only [sxL, encs, kpLL_map, sxN, sevalprocAttr, ne_eq, decide_true, decide_false] <;> (try simp [bookS, p1, p2, p3, p4', q1, p5', hm]) <;> (try omega)) (by simp only [sxL, encs, kpLL_map, sxN, sevalprocAttr, ne_eq, decide_true, decide_false] <;> (try simp) <;> (try omega))
                    · rw [if_neg (by simpa using hb)] at hm
                      simp only [↓sxD, ↓sxP0, sxP1, sxF, sxA, sxS, sxK, encs, tys, sxN, sevalprocAttr, ne_eq, decide_true, decide_false]
                      (with_reducible refine Vc.go ?_ fun _ => ?_); focus (first | omega | (simp only [InK]; omega) | (simp [InK]; done) | (simp [InK]; omega))
                      simp only [↓sxD, ↓sxP0, sxP1, sxF, sxA, sxS, sxK, encs, tys, sxN, sevalprocAttr, ne_eq, decide_true, decide_false]
                      refine ⟨j + 1 + 1, StLe.auto (by simp only [sxS, sxL, sxF, encs, sxN, sevalprocAttr, ne_eq, decide_true, decide_false] <;> (try simp) <;> (try omega)), ?_, ?_⟩
                      · exact ⟨h1, by rw [show prevK b.cancels (j + 1 + 1) = some b.cancels[j + 1] from List.getElem?_eq_getElem h1]; exact hm⟩
                      · omega
                · rw [if_pos hin] at hm
                  simp only [↓sxD, ↓sxP0, sxP1, sxF, sxA, sxS, sxK, encs, tys, sxN, sevalprocAttr, ne_eq, decide_true, decide_false]
                  exact EndW.fn (by simp only [sxL, encs, kpLL_map, sxN, sevalprocAttr, ne_eq, decide_true, decide_false] <;> (try simp [bookS, p1, p2, p3, p4', q1, p5', hm]) <;> (try omega)) (by simp only [sxL, encs, kpLL_map, sxN, sevalprocAttr, ne_eq, decide_true, decide_false] <;> (try simp) <;> (try omega))
              · simp only [↓sxD, ↓sxP0, sxP1, sxF, sxA, sxS, sxK, encs, tys, sxN, sevalprocAttr, ne_eq, decide_true, decide_false]
                have hke : k = b.cancels.length := by omega
                subst hke
                rw [List.drop_length] at hm
                simp only [scanO] at hm
                clear hk hlt
                exact EndW.fn (by simp only [sxL, encs, kpLL_map, sxN, sevalprocAttr, ne_eq, decide_true, decide_false] <;> (try simp [bookS, p1, p2, p3, p4', q1, p5', hm]) <;> (try omega)) (by simp only [sxL, encs, kpLL_map, sxN, sevalprocAttr, ne_eq, decide_true, decide_false] <;> (try simp) <;> (try omega))
    · simp only [↓sxD, ↓sxP0, sxP1, sxF, sxA, sxS, sxK, encs, tys, sxN, sevalprocAttr, ne_eq, decide_true, decide_false]
      exact EndW.fn (by simp only [sxL, encs, kpLL_map, sxN, sevalprocAttr, ne_eq, decide_true, decide_false] <;> (try simp [bookS, p1, p2]) <;> (try omega)) (by simp only [sxL, encs, kpLL_map, sxN, sevalprocAttr, ne_eq, decide_true, decide_false] <;> (try simp) <;> (try omega))
  · simp only [↓sxD, ↓sxP0, sxP1, sxF, sxA, sxS, sxK, encs, tys, sxN, sevalprocAttr, ne_eq, decide_true, decide_false]
    exact EndW.fn (by simp only [sxL, encs, kpLL_map, sxN, sevalprocAttr, ne_eq, decide_true, decide_false] <;> (try simp [bookS, p1]) <;> (try omega)) (by simp only [sxL, encs, kpLL_map, sxN, sevalprocAttr, ne_eq, decide_true, decide_false] <;> (try simp) <;> (try omega))
end Go.Proofs.Ytfpkpokkgbobmaa
