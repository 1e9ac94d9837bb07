/-
  Chapter 6, walks: what is bound.
-/
import Derived.Test.YtfpkpokkgbobmaaVW12
import Derived.Test.YtfpkpokkgbobmaaVMapT
namespace Go.Proofs.Ytfpkpokkgbobmaa
open Go Go.Vx
set_option linter.unusedSimpArgs false
set_option maxRecDepth 20000
/-- what is bound of a page: nothing, the page itself, or a blank; and the plates behind it. -/
def bndA (ca : List Int) (k : Nat) : List Int := if (k : Int) ∈ ca then [0] else if 0 < k then [(k : Int)] else []
def bndP (pl ca : List Int) (k : Nat) : List Int := bndA ca k ++ List.replicate (pl.count (k : Int)) (-1)
def bndK (pl ca : List Int) (k : Nat) : List Int := (List.range k).flatMap (bndP pl ca)
theorem bndK_zero (pl ca : List Int) : bndK pl ca 0 = [] := rfl
theorem bndK_succ (pl ca : List Int) (k : Nat) : bndK pl ca (k + 1) = bndK pl ca k ++ bndP pl ca k := by
  unfold bndK; rw [List.range_succ, List.flatMap_append]; simp
theorem bndA_len (ca : List Int) (k : Nat) : (bndA ca k).length ≤ 1 := by unfold bndA; split <;> (try split) <;> simp
theorem bndK_len (pl ca : List Int) : ∀ k, (bndK pl ca k).length ≤ k * (1 + pl.length)
  | 0 => by simp [bndK_zero]
  | k + 1 => by
    have h1 := bndK_len pl ca k
    have h2 := bndA_len ca k
    have h3 := List.count_le_length (a := (k : Int)) (l := pl)
    rw [bndK_succ, bndP, List.length_append, List.length_append, List.length_replicate, Nat.succ_mul]
    omega
def bndS (b : Book) : List Int × Int := if (bookS b).2 ≠ 0 then ([], (bookS b).2) else (bndK b.plates b.cancels (b.pages.toNat + 1), 0)
set_option maxHeartbeats 2000000 in
theorem bound_s (x x' : Bool) (b : Book) (hp : b.plates.length ≤ 1000) (hc : b.cancels.length ≤ 1000) : Ctr Try.prog 35 [.agg [(.v (.int .i64 b.pages)), (.v (.int .i64 b.per)), .sl x 1 (b.plates.map eI), .sl x' 1 (b.cancels.map eI)]] (fun rr => rr = ⟨.tup [.sl true 1 ((bndS b).1.map eI), (.v (.int .i64 ((bndS b).2)))], []⟩) := by
  have encs := And.intro encs maps
  refine Ctr.of (rs := [.tmp 2, .tmp 3]) Tok true Try.func35 rfl rfl rfl rfl (by simp [ofDL]) (fun w0 kp => ?_)
  simp only [↓sxD, ↓sxP0, sxP1, sxF, sxA, sxS, sxK, encs, tys, sxN, sevalprocAttr, ne_eq, decide_true, decide_false]
  refine CallI.fn (book_s x x' b) (by simp only [sxA, sxL, sxF, encs, sxN, sevalprocAttr, ne_eq, decide_true, decide_false] <;> (try simp)) ?_
  simp only [↓sxD, ↓sxP0, sxP1, sxF, sxA, sxS, sxK, encs, tys, sxN, sevalprocAttr, ne_eq, decide_true, decide_false]
  refine BrW.dec (fun he => ?_) (fun he => ?_)
  · simp only [↓sxD, ↓sxP0, sxP1, sxF, sxA, sxS, sxK, encs, tys, sxN, sevalprocAttr, ne_eq, decide_true, decide_false]
    exact EndW.fn (by simp only [sxL, encs, kpLL_map, sxN, sevalprocAttr, ne_eq, decide_true, decide_false] <;> (try simp [bndS, he]) <;> (try omega)) (by simp only [sxL, encs, kpLL_map, sxN, sevalprocAttr, ne_eq, decide_true, decide_false] <;> (try simp) <;> (try omega))
  · have he0 : (bookS b).2 = 0 := Decidable.not_not.1 he
    obtain ⟨a1, a2, a3, a4⟩ := book_ok he0
    have hS : bndS b = (bndK b.plates b.cancels (b.pages.toNat + 1), 0) := by unfold bndS; rw [if_neg he]
    rw [hS]
    obtain ⟨p, q, pl, ca⟩ := b
    simp only [] at a1 a2 a3 a4 hp hc ⊢
    clear he he0 hS
    obtain ⟨P, rfl⟩ : ∃ P : Nat, p = P := ⟨p.toNat, by omega⟩
    rw [Int.toNat_natCast]
    simp only [↓sxD, ↓sxP0, sxP1, sxF, sxA, sxS, sxK, encs, tys, sxN, sevalprocAttr, ne_eq, decide_true, decide_false]
    refine LoopW.comp [1, 6, 7, 25, 26, 27] (by simp only [sxS, sxL, sxF, encs, sxN, sevalprocAttr, ne_eq, decide_true, decide_false] <;> (try simp) <;> (try omega)) ?_
    simp only [sxS, sxF, sxN, sevalprocAttr, ne_eq, decide_true, decide_false]
    refine LoopW.up Tok (fun x : Nat × List (Int × Int) => [(27, (.v (.int .i64 x.1)))]) (fun x => []) (fun x => [(0, x.2.map eII)]) (fun x => []) (fun x => x.1 ≤ pl.length ∧ ∀ c, (luk c x.2).getD 0 = ((pl.take x.1).count c : Int)) (fun x => pl.length - x.1) ((0, [])) (by simp only [sxS, sxL, sxF, encs, sxN, sevalprocAttr, ne_eq, decide_true, decide_false] <;> (try simp) <;> (try omega)) ?_ ?_
    · exact ⟨by simp, fun c => by simp [luk]⟩
    rintro ⟨k, m⟩ ⟨hk, hm⟩
    simp only [] at hk hm
    simp only [↓sxD, ↓sxP0, sxP1, sxF, sxA, sxS, sxK, encs, tys, sxN, sevalprocAttr, ne_eq, decide_true, decide_false]
    refine BrW.dec (fun hlt => ?_) (fun hlt => ?_)
    · have hk2 : k < pl.length := by omega
      have hm1 := hm pl[k]
      have hm2 := List.count_le_length (a := pl[k]) (l := pl.take k)
      rw [List.length_take] at hm2
      simp only [↓sxD, ↓sxP0, sxP1, sxF, sxA, sxS, sxK, encs, tys, sxN, sevalprocAttr, ne_eq, decide_true, decide_false]
      refine IxW.nat hk2 ?_
      simp only [↓sxD, ↓sxP0, sxP1, sxF, sxA, sxS, sxK, encs, tys, sxN, sevalprocAttr, ne_eq, decide_true, decide_false]
      repeat ((with_reducible refine Vc.go ?_ fun _ => ?_); (focus (first | omega | (simp only [InK]; omega) | (simp [InK]; done) | (simp [InK]; omega))); simp only [↓sxD, ↓sxP0, sxP1, sxF, sxA, sxS, sxK, encs, tys, sxN, sevalprocAttr, ne_eq, decide_true, decide_false])
      refine ⟨(k + 1, upd pl[k] ((luk pl[k] m).getD 0 + 1) m), StLe.auto (by simp only [sxS, sxL, sxF, encs, sxN, sevalprocAttr, ne_eq, decide_true, decide_false] <;> (try simp) <;> (try omega)), ?_, ?_⟩
      · refine ⟨hk2, fun c => ?_⟩
        simp only [luk_upd]
        rw [List.take_succ_eq_append_getElem hk2, List.count_append]
        by_cases h : pl[k] = c
        · subst h; simp [hm1]
        · rw [if_neg h, hm c]; simp [h]
      · show pl.length - (k + 1) < pl.length - k; omega
    · have hke : k = pl.length := by omega
      subst hke
      rw [List.take_length] at hm
      simp only [↓sxD, ↓sxP0, sxP1, sxF, sxA, sxS, sxK, encs, tys, sxN, sevalprocAttr, ne_eq, decide_true, decide_false]
      refine LoopW.comp [1, 6, 7, 37, 38, 39] (by simp only [sxS, sxL, sxF, encs, sxN, sevalprocAttr, ne_eq, decide_true, decide_false] <;> (try simp) <;> (try omega)) ?_
      simp only [sxS, sxF, sxN, sevalprocAttr, ne_eq, decide_true, decide_false]
      refine LoopW.up Tok (fun x : Nat × List (Int × Bool) => [(39, (.v (.int .i64 x.1)))]) (fun x => []) (fun x => [(1, x.2.map eIB)]) (fun x => []) (fun x => x.1 ≤ ca.length ∧ ∀ c, (luk c x.2).getD false = decide (c ∈ ca.take x.1)) (fun x => ca.length - x.1) ((0, [])) (by simp only [sxS, sxL, sxF, encs, sxN, sevalprocAttr, ne_eq, decide_true, decide_false] <;> (try simp) <;> (try omega)) ?_ ?_
      · exact ⟨by simp, fun c => by simp [luk]⟩
      rintro ⟨k, m2⟩ ⟨hk, hm2⟩
      simp only [] at hk hm2
      simp only [↓sxD, ↓sxP0, sxP1, sxF, sxA, sxS, sxK, encs, tys, sxN, sevalprocAttr, ne_eq, decide_true, decide_false]
      refine BrW.dec (fun hlt => ?_) (fun hlt => ?_)
      · have hk2 : k < ca.length := by omega
        simp only [↓sxD, ↓sxP0, sxP1, sxF, sxA, sxS, sxK, encs, tys, sxN, sevalprocAttr, ne_eq, decide_true, decide_false]
        refine IxW.nat hk2 ?_
        simp only [↓sxD, ↓sxP0, sxP1, sxF, sxA, sxS, sxK, encs, tys, sxN, sevalprocAttr, ne_eq, decide_true, decide_false]
        repeat ((with_reducible refine Vc.go ?_ fun _ => ?_); (focus (first | omega | (simp only [InK]; omega) | (simp [InK]; done) | (simp [InK]; omega))); simp only [↓sxD, ↓sxP0, sxP1, sxF, sxA, sxS, sxK, encs, tys, sxN, sevalprocAttr, ne_eq, decide_true, decide_false])
        refine ⟨(k + 1, upd ca[k] true m2), StLe.auto (by simp only [sxS, sxL, sxF, encs, sxN, sevalprocAttr, ne_eq, decide_true, decide_false] <;> (try simp) <;> (try omega)), ?_, ?_⟩
        · refine ⟨hk2, fun c => ?_⟩
          simp only [luk_upd]
          rw [List.take_succ_eq_append_getElem hk2]
          by_cases h : ca[k] = c
          · subst h
            simp only [if_true, Option.getD_some]
            exact (decide_eq_true (List.mem_append.2 (.inr (List.mem_singleton.2 rfl)))).symm
          · rw [if_neg h, hm2 c]
            exact decide_eq_decide.2 ⟨fun e => List.mem_append.2 (.inl e), fun e => (List.mem_append.1 e).elim id fun e => absurd (List.mem_singleton.1 e).symm h⟩
        · show ca.length - (k + 1) < ca.length - k; omega
      · have hke : k = ca.length := by omega
        subst hke
        rw [List.take_length] at hm2
        simp only [↓sxD, ↓sxP0, sxP1, sxF, sxA, sxS, sxK, encs, tys, sxN, sevalprocAttr, ne_eq, decide_true, decide_false]
        repeat ((with_reducible refine Vc.go ?_ fun _ => ?_); (focus (first | omega | (simp only [InK]; omega) | (simp [InK]; done) | (simp [InK]; omega))); simp only [↓sxD, ↓sxP0, sxP1, sxF, sxA, sxS, sxK, encs, tys, sxN, sevalprocAttr, ne_eq, decide_true, decide_false])
        refine LoopW.comp [6, 7, 12, 48, 49] (by simp only [sxS, sxL, sxF, encs, sxN, sevalprocAttr, ne_eq, decide_true, decide_false] <;> (try simp) <;> (try omega)) ?_
        simp only [sxS, sxF, sxN, sevalprocAttr, ne_eq, decide_true, decide_false]
        refine LoopW.up Tok (fun k : Nat => [(12, .row 2), (49, (.v (.int .i64 k)))]) (fun k => []) (fun k => []) (fun k => [.own 3 1 ((bndK pl ca k).map eI)]) (fun k => k ≤ P + 1) (fun k => P + 1 - k) (0) (by simp only [sxS, sxL, sxF, encs, sxN, sevalprocAttr, ne_eq, decide_true, decide_false] <;> (try simp [bndK_zero, encs]) <;> (try omega)) ?_ ?_
        · omega
        rintro k hk3
        have hmk := hm k
        have hm2k := hm2 k
        have hbl := bndK_len pl ca k
        have hbl2 : k * (1 + pl.length) ≤ 4001 * 1001 := Nat.mul_le_mul (by omega) (by omega)
        have hcl := List.count_le_length (a := (k : Int)) (l := pl)
        have encs := And.intro encs (And.intro hmk hm2k)
        simp only [↓sxD, ↓sxP0, sxP1, sxF, sxA, sxS, sxK, encs, tys, sxN, sevalprocAttr, ne_eq, decide_true, decide_false]
        refine BrW.dec (fun hlt2 => ?_) (fun hlt2 => ?_)
        · have hk4 : k < P + 1 := by omega
          simp only [↓sxD, ↓sxP0, sxP1, sxF, sxA, sxS, sxK, encs, tys, sxN, sevalprocAttr, ne_eq, decide_true, decide_false]
          refine BrW.dec (fun hin => ?_) (fun hin => ?_)
          · have hA : bndA ca k = [0] := by unfold bndA; rw [if_pos hin]
            simp only [↓sxD, ↓sxP0, sxP1, sxF, sxA, sxS, sxK, encs, tys, sxN, sevalprocAttr, ne_eq, decide_true, decide_false]
            repeat ((with_reducible refine Vc.go ?_ fun _ => ?_); (focus (first | omega | (simp only [InK]; omega) | (simp [InK]; done) | (simp [InK]; omega))); simp only [↓sxD, ↓sxP0, sxP1, sxF, sxA, sxS, sxK, encs, tys, sxN, sevalprocAttr, ne_eq, decide_true, decide_false])
            refine LoopW.comp [6, 7, 12, 48, 49, 68, 69] (by simp only [sxS, sxL, sxF, encs, sxN, sevalprocAttr, ne_eq, decide_true, decide_false] <;> (try simp) <;> (try omega)) ?_
            simp only [sxS, sxF, sxN, sevalprocAttr, ne_eq, decide_true, decide_false]
            refine LoopW.up Tok (fun j : Nat => [(69, (.v (.int .i64 j)))]) (fun j => []) (fun j => [(2, (bndK pl ca k ++ [0] ++ List.replicate j (-1)).map eI)]) (fun j => []) (fun j => j ≤ pl.count (k : Int)) (fun j => pl.count (k : Int) - j) (0) (by simp only [sxS, sxL, sxF, encs, sxN, sevalprocAttr, ne_eq, decide_true, decide_false] <;> (try simp [eI, encs]) <;> (try omega)) ?_ ?_
            · omega
            rintro j hj
            have hlj : (bndK pl ca k ++ [0] ++ List.replicate j (-1 : Int)).length ≤ 5000000 := by
              simp only [List.length_append, List.length_replicate, List.length_cons, List.length_nil]; omega
            simp only [↓sxD, ↓sxP0, sxP1, sxF, sxA, sxS, sxK, encs, tys, sxN, sevalprocAttr, ne_eq, decide_true, decide_false]
            refine BrW.dec (fun hlt4 => ?_) (fun hlt4 => ?_)
            · simp only [↓sxD, ↓sxP0, sxP1, sxF, sxA, sxS, sxK, encs, tys, sxN, sevalprocAttr, ne_eq, decide_true, decide_false]
              repeat ((with_reducible refine Vc.go ?_ fun _ => ?_); (focus (first | omega | (simp only [InK]; omega) | (simp [hlj, InK]; done) | (simp [hlj, InK]; omega))); simp only [↓sxD, ↓sxP0, sxP1, sxF, sxA, sxS, sxK, encs, tys, sxN, sevalprocAttr, ne_eq, decide_true, decide_false])
              refine ⟨j + 1, StLe.auto (by simp only [sxS, sxL, sxF, encs, sxN, sevalprocAttr, ne_eq, decide_true, decide_false] <;> (try simp [List.replicate_succ', encs]) <;> (try omega)), ?_, ?_⟩
              · omega
              · omega
            · have hje : j = pl.count (k : Int) := by omega
              simp only [↓sxD, ↓sxP0, sxP1, sxF, sxA, sxS, sxK, encs, tys, sxN, sevalprocAttr, ne_eq, decide_true, decide_false]
              repeat ((with_reducible refine Vc.go ?_ fun _ => ?_); (focus (first | omega | (simp only [InK]; omega) | (simp [InK]; done) | (simp [InK]; omega))); simp only [↓sxD, ↓sxP0, sxP1, sxF, sxA, sxS, sxK, encs, tys, sxN, sevalprocAttr, ne_eq, decide_true, decide_false])
              refine ⟨k + 1, StLe.auto (by simp only [sxS, sxL, sxF, encs, sxN, sevalprocAttr, ne_eq, decide_true, decide_false] <;> (try simp [bndK_succ, bndP, hA, hje, encs]) <;> (try omega)), ?_, ?_⟩
              · omega
              · omega
          · simp only [↓sxD, ↓sxP0, sxP1, sxF, sxA, sxS, sxK, encs, tys, sxN, sevalprocAttr, ne_eq, decide_true, decide_false]
            refine BrW.dec (fun hpos => ?_) (fun hpos => ?_)
            · have hA : bndA ca k = [(k : Int)] := by unfold bndA; rw [if_neg hin, if_pos (by omega)]
              simp only [↓sxD, ↓sxP0, sxP1, sxF, sxA, sxS, sxK, encs, tys, sxN, sevalprocAttr, ne_eq, decide_true, decide_false]
              repeat ((with_reducible refine Vc.go ?_ fun _ => ?_); (focus (first | omega | (simp only [InK]; omega) | (simp [InK]; done) | (simp [InK]; omega))); simp only [↓sxD, ↓sxP0, sxP1, sxF, sxA, sxS, sxK, encs, tys, sxN, sevalprocAttr, ne_eq, decide_true, decide_false])
              refine LoopW.comp [6, 7, 12, 48, 49, 68, 69] (by simp only [sxS, sxL, sxF, encs, sxN, sevalprocAttr, ne_eq, decide_true, decide_false] <;> (try simp) <;> (try omega)) ?_
              simp only [sxS, sxF, sxN, sevalprocAttr, ne_eq, decide_true, decide_false]
              refine LoopW.up Tok (fun j : Nat => [(69, (.v (.int .i64 j)))]) (fun j => []) (fun j => [(2, (bndK pl ca k ++ [(k : Int)] ++ List.replicate j (-1)).map eI)]) (fun j => []) (fun j => j ≤ pl.count (k : Int)) (fun j => pl.count (k : Int) - j) (0) (by simp only [sxS, sxL, sxF, encs, sxN, sevalprocAttr, ne_eq, decide_true, decide_false] <;> (try simp [eI, encs]) <;> (try omega)) ?_ ?_
              · omega
              rintro j hj
              have hlj : (bndK pl ca k ++ [(k : Int)] ++ List.replicate j (-1 : Int)).length ≤ 5000000 := by
                simp only [List.length_append, List.length_replicate, List.length_cons, List.length_nil]; omega
              simp only [↓sxD, ↓sxP0, sxP1, sxF, sxA, sxS, sxK, encs, tys, sxN, sevalprocAttr, ne_eq, decide_true, decide_false]
              refine BrW.dec (fun hlt4 => ?_) (fun hlt4 => ?_)
              · simp only [↓sxD, ↓sxP0, sxP1, sxF, sxA, sxS, sxK, encs, tys, sxN, sevalprocAttr, ne_eq, decide_true, decide_false]
                repeat ((with_reducible refine Vc.go ?_ fun _ => ?_); (focus (first | omega | (simp only [InK]; omega) | (simp [hlj, InK]; done) | (simp [hlj, InK]; omega))); simp only [↓sxD, ↓sxP0, sxP1, sxF, sxA, sxS, sxK, encs, tys, sxN, sevalprocAttr, ne_eq, decide_true, decide_false])
                refine ⟨j + 1, StLe.auto (by simp only [sxS, sxL, sxF, encs, sxN, sevalprocAttr, ne_eq, decide_true, decide_false] <;> (try simp [List.replicate_succ', encs]) <;> (try omega)), ?_, ?_⟩
                · omega
                · omega
              · have hje : j = pl.count (k : Int) := by omega
                simp only [↓sxD, ↓sxP0, sxP1, sxF, sxA, sxS, sxK, encs, tys, sxN, sevalprocAttr, ne_eq, decide_true, decide_false]
                repeat ((with_reducible refine Vc.go ?_ fun _ => ?_); (focus (first | omega | (simp only [InK]; omega) | (simp [InK]; done) | (simp [InK]; omega))); simp only [↓sxD, ↓sxP0, sxP1, sxF, sxA, sxS, sxK, encs, tys, sxN, sevalprocAttr, ne_eq, decide_true, decide_false])
                refine ⟨k + 1, StLe.auto (by simp only [sxS, sxL, sxF, encs, sxN, sevalprocAttr, ne_eq, decide_true, decide_false] <;> (try simp [bndK_succ, bndP, hA, hje, encs]) <;> (try omega)), ?_, ?_⟩
                · omega
                · omega
            · have hA : bndA ca k = [] := by unfold bndA; rw [if_neg hin, if_neg (by omega)]
              simp only [↓sxD, ↓sxP0, sxP1, sxF, sxA, sxS, sxK, encs, tys, sxN, sevalprocAttr, ne_eq, decide_true, decide_false]
              repeat ((with_reducible refine Vc.go ?_ fun _ => ?_); (focus (first | omega | (simp only [InK]; omega) | (simp [InK]; done) | (simp [InK]; omega))); simp only [↓sxD, ↓sxP0, sxP1, sxF, sxA, sxS, sxK, encs, tys, sxN, sevalprocAttr, ne_eq, decide_true, decide_false])
              refine LoopW.comp [6, 7, 12, 48, 49, 68, 69] (by simp only [sxS, sxL, sxF, encs, sxN, sevalprocAttr, ne_eq, decide_true, decide_false] <;> (try simp) <;> (try omega)) ?_
              simp only [sxS, sxF, sxN, sevalprocAttr, ne_eq, decide_true, decide_false]
              refine LoopW.up Tok (fun j : Nat => [(69, (.v (.int .i64 j)))]) (fun j => []) (fun j => [(2, (bndK pl ca k ++ [] ++ List.replicate j (-1)).map eI)]) (fun j => []) (fun j => j ≤ pl.count (k : Int)) (fun j => pl.count (k : Int) - j) (0) (by simp only [sxS, sxL, sxF, encs, sxN, sevalprocAttr, ne_eq, decide_true, decide_false] <;> (try simp [eI, encs]) <;> (try omega)) ?_ ?_
              · omega
              rintro j hj
              have hlj : (bndK pl ca k ++ [] ++ List.replicate j (-1 : Int)).length ≤ 5000000 := by
                simp only [List.length_append, List.length_replicate, List.length_cons, List.length_nil]; omega
              simp only [↓sxD, ↓sxP0, sxP1, sxF, sxA, sxS, sxK, encs, tys, sxN, sevalprocAttr, ne_eq, decide_true, decide_false]
              refine BrW.dec (fun hlt4 => ?_) (fun hlt4 => ?_)
              · simp only [↓sxD, ↓sxP0, sxP1, sxF, sxA, sxS, sxK, encs, tys, sxN, sevalprocAttr, ne_eq, decide_true, decide_false]
                repeat ((with_reducible refine Vc.go ?_ fun _ => ?_); (focus (first | omega | (simp only [InK]; omega) | (simp [hlj, InK]; done) | (simp [hlj, InK]; omega))); simp only [↓sxD, ↓sxP0, sxP1, sxF, sxA, sxS, sxK, encs, tys, sxN, sevalprocAttr, ne_eq, decide_true, decide_false])
                refine ⟨j + 1, StLe.auto (by simp only [sxS, sxL, sxF, encs, sxN, sevalprocAttr, ne_eq, decide_true, decide_false] <;> (try simp [List.replicate_succ', encs]) <;> (try omega)), ?_, ?_⟩
                · omega
                · omega
              · have hje : j = pl.count (k : Int) := by omega
                simp only [↓sxD, ↓sxP0, sxP1, sxF, sxA, sxS, sxK, encs, tys, sxN, sevalprocAttr, ne_eq, decide_true, decide_false]
                repeat ((with_reducible refine Vc.go ?_ fun _ => ?_); (focus (first | omega | (simp only [InK]; omega) | (simp [InK]; done) | (simp [InK]; omega))); simp only [↓sxD, ↓sxP0, sxP1, sxF, sxA, sxS, sxK, encs, tys, sxN, sevalprocAttr, ne_eq, decide_true, decide_false])
                refine ⟨k + 1, StLe.auto (by simp only [sxS, sxL, sxF, encs, sxN, sevalprocAttr, ne_eq, decide_true, decide_false] <;> (try simp [bndK_succ, bndP, hA, hje, encs]) <;> (try omega)), ?_, ?_⟩
                · omega
                · omega
        · simp only [↓sxD, ↓sxP0, sxP1, sxF, sxA, sxS, sxK, encs, tys, sxN, sevalprocAttr, ne_eq, decide_true, decide_false]
          have : k = P + 1 := by omega
          subst this
          exact EndW.fn (by simp only [sxL, encs, kpLL_map, sxN, sevalprocAttr, ne_eq, decide_true, decide_false] <;> (try simp) <;> (try omega)) (by simp only [sxL, encs, kpLL_map, sxN, sevalprocAttr, ne_eq, decide_true, decide_false] <;> (try simp) <;> (try omega))
set_option maxHeartbeats 2000000 in
theorem boundR_s (x x' : Bool) (P : Nat) (q : Int) (pl ca : List Int) (hp : pl.length ≤ 1000) (hc : ca.length ≤ 1000) (h0 : ¬ (0 : Int) ∈ ca) (hP : P ≤ 4000) : Ctr Try.prog 40 [.agg [(.v (.int .i64 P)), (.v (.int .i64 q)), .sl x 1 (pl.map eI), .sl x' 1 (ca.map eI)]] (fun rr => rr = ⟨.sl true 1 ((bndK pl ca (P + 1)).map eI), []⟩) := by
  refine Ctr.of (rs := [.tmp 2]) Tok true Try.func40 rfl rfl rfl rfl (by simp [ofDL]) (fun w0 kp => ?_)
  simp only [↓sxD, ↓sxP0, sxP1, sxF, sxA, sxS, sxK, encs, tys, sxN, sevalprocAttr, ne_eq, decide_true, decide_false]
  refine LoopW.comp [1, 3, 4] (by simp only [sxS, sxL, sxF, encs, sxN, sevalprocAttr, ne_eq, decide_true, decide_false] <;> (try simp) <;> (try omega)) ?_
  simp only [sxS, sxF, sxN, sevalprocAttr, ne_eq, decide_true, decide_false]
  refine LoopW.up Tok (fun k : Nat => [(3, .row 0), (4, (.v (.int .i64 k)))]) (fun k => []) (fun k => []) (fun k => [.own 3 1 ((bndK pl ca k).map eI)]) (fun k => k ≤ P + 1) (fun k => P + 1 - k) (0) (by simp only [sxS, sxL, sxF, encs, sxN, sevalprocAttr, ne_eq, decide_true, decide_false] <;> (try simp [bndK_zero, encs]) <;> (try omega)) ?_ ?_
  · omega
  rintro k hk3
  have hbl := bndK_len pl ca k
  have hbl2 : k * (1 + pl.length) ≤ 4001 * 1001 := Nat.mul_le_mul (by omega) (by omega)
  simp only [↓sxD, ↓sxP0, sxP1, sxF, sxA, sxS, sxK, encs, tys, sxN, sevalprocAttr, ne_eq, decide_true, decide_false]
  refine BrW.dec (fun hlt2 => ?_) (fun hlt2 => ?_)
  · have hk4 : k < P + 1 := by omega
    simp only [↓sxD, ↓sxP0, sxP1, sxF, sxA, sxS, sxK, encs, tys, sxN, sevalprocAttr, ne_eq, decide_true, decide_false]
    refine BrW.dec (fun hpos => ?_) (fun hpos => ?_)
    · simp only [↓sxD, ↓sxP0, sxP1, sxF, sxA, sxS, sxK, encs, tys, sxN, sevalprocAttr, ne_eq, decide_true, decide_false]
      refine CallI.fn (has_s x' ca k (by omega)) (by simp only [sxA, sxL, sxF, encs, sxN, sevalprocAttr, ne_eq, decide_true, decide_false] <;> (try simp)) ?_
      simp only [↓sxD, ↓sxP0, sxP1, sxF, sxA, sxS, sxK, encs, tys, sxN, sevalprocAttr, ne_eq, decide_true, decide_false]
      refine BrW.dec (fun hin => ?_) (fun hin => ?_)
      · have hA : bndA ca k = [0] := by unfold bndA; rw [if_pos hin]
        simp only [↓sxD, ↓sxP0, sxP1, sxF, sxA, sxS, sxK, encs, tys, sxN, sevalprocAttr, ne_eq, decide_true, decide_false]
        repeat ((with_reducible refine Vc.go ?_ fun _ => ?_); (focus (first | omega | (simp only [InK]; omega) | (simp [InK]; done) | (simp [InK]; omega))); simp only [↓sxD, ↓sxP0, sxP1, sxF, sxA, sxS, sxK, encs, tys, sxN, sevalprocAttr, ne_eq, decide_true, decide_false])
        refine LoopW.comp [1, 3, 4, 5] (by simp only [sxS, sxL, sxF, encs, sxN, sevalprocAttr, ne_eq, decide_true, decide_false] <;> (try simp) <;> (try omega)) ?_
        simp only [sxS, sxF, sxN, sevalprocAttr, ne_eq, decide_true, decide_false]
        refine LoopW.up Tok (fun j : Nat => [(5, (.v (.int .i64 j)))]) (fun j => []) (fun j => [(0, (bndK pl ca k ++ [0] ++ List.replicate ((pl.take j).count (k : Int)) (-1)).map eI)]) (fun j => []) (fun j => j ≤ pl.length) (fun j => pl.length - j) (0) (by simp only [sxS, sxL, sxF, encs, sxN, sevalprocAttr, ne_eq, decide_true, decide_false] <;> (try simp [eI, encs]) <;> (try omega)) ?_ ?_
        · omega
        rintro j hj
        have hcj := List.count_le_length (a := (k : Int)) (l := pl.take j)
        rw [List.length_take] at hcj
        have hlj : (bndK pl ca k ++ [0] ++ List.replicate ((pl.take j).count (k : Int)) (-1 : Int)).length ≤ 5000000 := by
          simp only [List.length_append, List.length_replicate, List.length_cons, List.length_nil]; omega
        simp only [↓sxD, ↓sxP0, sxP1, sxF, sxA, sxS, sxK, encs, tys, sxN, sevalprocAttr, ne_eq, decide_true, decide_false]
        refine BrW.dec (fun hlt4 => ?_) (fun hlt4 => ?_)
        · have hj2 : j < pl.length := by omega
          simp only [↓sxD, ↓sxP0, sxP1, sxF, sxA, sxS, sxK, encs, tys, sxN, sevalprocAttr, ne_eq, decide_true, decide_false]
          refine IxW.nat hj2 ?_
          simp only [↓sxD, ↓sxP0, sxP1, sxF, sxA, sxS, sxK, encs, tys, sxN, sevalprocAttr, ne_eq, decide_true, decide_false]
          refine BrW.dec (fun heq => ?_) (fun heq => ?_)
          · have hc2 : (pl.take (j + 1)).count (k : Int) = (pl.take j).count (k : Int) + 1 := by
              rw [List.take_succ_eq_append_getElem hj2, List.count_append, heq]; simp
            simp only [↓sxD, ↓sxP0, sxP1, sxF, sxA, sxS, sxK, encs, tys, sxN, sevalprocAttr, ne_eq, decide_true, decide_false]
            repeat ((with_reducible refine Vc.go ?_ fun _ => ?_); (focus (first | omega | (simp only [InK]; omega) | (simp [hlj, InK]; done) | (simp [hlj, InK]; omega))); simp only [↓sxD, ↓sxP0, sxP1, sxF, sxA, sxS, sxK, encs, tys, sxN, sevalprocAttr, ne_eq, decide_true, decide_false])
            refine ⟨j + 1, StLe.auto (by simp only [sxS, sxL, sxF, encs, sxN, sevalprocAttr, ne_eq, decide_true, decide_false] <;> (try simp [hc2, List.replicate_succ', encs]) <;> (try omega)), ?_, ?_⟩
            · omega
            · omega
          · have hc2 : (pl.take (j + 1)).count (k : Int) = (pl.take j).count (k : Int) := by
              rw [List.take_succ_eq_append_getElem hj2, List.count_append]; simp [heq]
            simp only [↓sxD, ↓sxP0, sxP1, sxF, sxA, sxS, sxK, encs, tys, sxN, sevalprocAttr, ne_eq, decide_true, decide_false]
            repeat ((with_reducible refine Vc.go ?_ fun _ => ?_); (focus (first | omega | (simp only [InK]; omega) | (simp [hlj, InK]; done) | (simp [hlj, InK]; omega))); simp only [↓sxD, ↓sxP0, sxP1, sxF, sxA, sxS, sxK, encs, tys, sxN, sevalprocAttr, ne_eq, decide_true, decide_false])
            refine ⟨j + 1, StLe.auto (by simp only [sxS, sxL, sxF, encs, sxN, sevalprocAttr, ne_eq, decide_true, decide_false] <;> (try simp [hc2, encs]) <;> (try omega)), ?_, ?_⟩
            · omega
            · omega
        · have hje : j = pl.length := by omega
          subst hje
          rw [List.take_length]
          simp only [↓sxD, ↓sxP0, sxP1, sxF, sxA, sxS, sxK, encs, tys, sxN, sevalprocAttr, ne_eq, decide_true, decide_false]
          repeat ((with_reducible refine Vc.go ?_ fun _ => ?_); (focus (first | omega | (simp only [InK]; omega) | (simp [InK]; done) | (simp [InK]; omega))); simp only [↓sxD, ↓sxP0, sxP1, sxF, sxA, sxS, sxK, encs, tys, sxN, sevalprocAttr, ne_eq, decide_true, decide_false])
          refine ⟨k + 1, StLe.auto (by simp only [sxS, sxL, sxF, encs, sxN, sevalprocAttr, ne_eq, decide_true, decide_false] <;> (try simp [bndK_succ, bndP, hA, encs]) <;> (try omega)), ?_, ?_⟩
          · omega
          · omega
      · have hA : bndA ca k = [(k : Int)] := by unfold bndA; rw [if_neg hin, if_pos (by omega)]
        simp only [↓sxD, ↓sxP0, sxP1, sxF, sxA, sxS, sxK, encs, tys, sxN, sevalprocAttr, ne_eq, decide_true, decide_false]
        refine BrW.yes hpos ?_
        simp only [↓sxD, ↓sxP0, sxP1, sxF, sxA, sxS, sxK, encs, tys, sxN, sevalprocAttr, ne_eq, decide_true, decide_false]
        repeat ((with_reducible refine Vc.go ?_ fun _ => ?_); (focus (first | omega | (simp only [InK]; omega) | (simp [InK]; done) | (simp [InK]; omega))); simp only [↓sxD, ↓sxP0, sxP1, sxF, sxA, sxS, sxK, encs, tys, sxN, sevalprocAttr, ne_eq, decide_true, decide_false])
        refine LoopW.comp [1, 3, 4, 5] (by simp only [sxS, sxL, sxF, encs, sxN, sevalprocAttr, ne_eq, decide_true, decide_false] <;> (try simp) <;> (try omega)) ?_
        simp only [sxS, sxF, sxN, sevalprocAttr, ne_eq, decide_true, decide_false]
        refine LoopW.up Tok (fun j : Nat => [(5, (.v (.int .i64 j)))]) (fun j => []) (fun j => [(0, (bndK pl ca k ++ [(k : Int)] ++ List.replicate ((pl.take j).count (k : Int)) (-1)).map eI)]) (fun j => []) (fun j => j ≤ pl.length) (fun j => pl.length - j) (0) (by simp only [sxS, sxL, sxF, encs, sxN, sevalprocAttr, ne_eq, decide_true, decide_false] <;> (try simp [eI, encs]) <;> (try omega)) ?_ ?_
        · omega
        rintro j hj
        have hcj := List.count_le_length (a := (k : Int)) (l := pl.take j)
        rw [List.length_take] at hcj
        have hlj : (bndK pl ca k ++ [(k : Int)] ++ List.replicate ((pl.take j).count (k : Int)) (-1 : Int)).length ≤ 5000000 := by
          simp only [List.length_append, List.length_replicate, List.length_cons, List.length_nil]; omega
        simp only [↓sxD, ↓sxP0, sxP1, sxF, sxA, sxS, sxK, encs, tys, sxN, sevalprocAttr, ne_eq, decide_true, decide_false]
        refine BrW.dec (fun hlt4 => ?_) (fun hlt4 => ?_)
        · have hj2 : j < pl.length := by omega
          simp only [↓sxD, ↓sxP0, sxP1, sxF, sxA, sxS, sxK, encs, tys, sxN, sevalprocAttr, ne_eq, decide_true, decide_false]
          refine IxW.nat hj2 ?_
          simp only [↓sxD, ↓sxP0, sxP1, sxF, sxA, sxS, sxK, encs, tys, sxN, sevalprocAttr, ne_eq, decide_true, decide_false]
          refine BrW.dec (fun heq => ?_) (fun heq => ?_)
          · have hc2 : (pl.take (j + 1)).count (k : Int) = (pl.take j).count (k : Int) + 1 := by
              rw [List.take_succ_eq_append_getElem hj2, List.count_append, heq]; simp
            simp only [↓sxD, ↓sxP0, sxP1, sxF, sxA, sxS, sxK, encs, tys, sxN, sevalprocAttr, ne_eq, decide_true, decide_false]
            repeat ((with_reducible refine Vc.go ?_ fun _ => ?_); (focus (first | omega | (simp only [InK]; omega) | (simp [hlj, InK]; done) | (simp [hlj, InK]; omega))); simp only [↓sxD, ↓sxP0, sxP1, sxF, sxA, sxS, sxK, encs, tys, sxN, sevalprocAttr, ne_eq, decide_true, decide_false])
            refine ⟨j + 1, StLe.auto (by simp only [sxS, sxL, sxF, encs, sxN, sevalprocAttr, ne_eq, decide_true, decide_false] <;> (try simp [hc2, List.replicate_succ', encs]) <;> (try omega)), ?_, ?_⟩
            · omega
            · omega
          · have hc2 : (pl.take (j + 1)).count (k : Int) = (pl.take j).count (k : Int) := by
              rw [List.take_succ_eq_append_getElem hj2, List.count_append]; simp [heq]
            simp only [↓sxD, ↓sxP0, sxP1, sxF, sxA, sxS, sxK, encs, tys, sxN, sevalprocAttr, ne_eq, decide_true, decide_false]
            repeat ((with_reducible refine Vc.go ?_ fun _ => ?_); (focus (first | omega | (simp only [InK]; omega) | (simp [hlj, InK]; done) | (simp [hlj, InK]; omega))); simp only [↓sxD, ↓sxP0, sxP1, sxF, sxA, sxS, sxK, encs, tys, sxN, sevalprocAttr, ne_eq, decide_true, decide_false])
            refine ⟨j + 1, StLe.auto (by simp only [sxS, sxL, sxF, encs, sxN, sevalprocAttr, ne_eq, decide_true, decide_false] <;> (try simp [hc2, encs]) <;> (try omega)), ?_, ?_⟩
            · omega
            · omega
        · have hje : j = pl.length := by omega
          subst hje
          rw [List.take_length]
          simp only [↓sxD, ↓sxP0, sxP1, sxF, sxA, sxS, sxK, encs, tys, sxN, sevalprocAttr, ne_eq, decide_true, decide_false]
          repeat ((with_reducible refine Vc.go ?_ fun _ => ?_); (focus (first | omega | (simp only [InK]; omega) | (simp [InK]; done) | (simp [InK]; omega))); simp only [↓sxD, ↓sxP0, sxP1, sxF, sxA, sxS, sxK, encs, tys, sxN, sevalprocAttr, ne_eq, decide_true, decide_false])
          refine ⟨k + 1, StLe.auto (by simp only [sxS, sxL, sxF, encs, sxN, sevalprocAttr, ne_eq, decide_true, decide_false] <;> (try simp [bndK_succ, bndP, hA, encs]) <;> (try omega)), ?_, ?_⟩
          · omega
          · omega
    · have hk0 : k = 0 := by omega
      have hA : bndA ca k = [] := by unfold bndA; rw [hk0, if_neg (show ¬ ((0 : Nat) : Int) ∈ ca from h0), if_neg (by omega)]
      simp only [↓sxD, ↓sxP0, sxP1, sxF, sxA, sxS, sxK, encs, tys, sxN, sevalprocAttr, ne_eq, decide_true, decide_false]
      refine BrW.no hpos ?_
      simp only [↓sxD, ↓sxP0, sxP1, sxF, sxA, sxS, sxK, encs, tys, sxN, sevalprocAttr, ne_eq, decide_true, decide_false]
      repeat ((with_reducible refine Vc.go ?_ fun _ => ?_); (focus (first | omega | (simp only [InK]; omega) | (simp [InK]; done) | (simp [InK]; omega))); simp only [↓sxD, ↓sxP0, sxP1, sxF, sxA, sxS, sxK, encs, tys, sxN, sevalprocAttr, ne_eq, decide_true, decide_false])
      refine LoopW.comp [1, 3, 4, 5] (by simp only [sxS, sxL, sxF, encs, sxN, sevalprocAttr, ne_eq, decide_true, decide_false] <;> (try simp) <;> (try omega)) ?_
      simp only [sxS, sxF, sxN, sevalprocAttr, ne_eq, decide_true, decide_false]
      refine LoopW.up Tok (fun j : Nat => [(5, (.v (.int .i64 j)))]) (fun j => []) (fun j => [(0, (bndK pl ca k ++ [] ++ List.replicate ((pl.take j).count (k : Int)) (-1)).map eI)]) (fun j => []) (fun j => j ≤ pl.length) (fun j => pl.length - j) (0) (by simp only [sxS, sxL, sxF, encs, sxN, sevalprocAttr, ne_eq, decide_true, decide_false] <;> (try simp [eI, encs]) <;> (try omega)) ?_ ?_
      · omega
      rintro j hj
      have hcj := List.count_le_length (a := (k : Int)) (l := pl.take j)
      rw [List.length_take] at hcj
      have hlj : (bndK pl ca k ++ [] ++ List.replicate ((pl.take j).count (k : Int)) (-1 : Int)).length ≤ 5000000 := by
        simp only [List.length_append, List.length_replicate, List.length_cons, List.length_nil]; omega
      simp only [↓sxD, ↓sxP0, sxP1, sxF, sxA, sxS, sxK, encs, tys, sxN, sevalprocAttr, ne_eq, decide_true, decide_false]
      refine BrW.dec (fun hlt4 => ?_) (fun hlt4 => ?_)
      · have hj2 : j < pl.length := by omega
        simp only [↓sxD, ↓sxP0, sxP1, sxF, sxA, sxS, sxK, encs, tys, sxN, sevalprocAttr, ne_eq, decide_true, decide_false]
        refine IxW.nat hj2 ?_
        simp only [↓sxD, ↓sxP0, sxP1, sxF, sxA, sxS, sxK, encs, tys, sxN, sevalprocAttr, ne_eq, decide_true, decide_false]
        refine BrW.dec (fun heq => ?_) (fun heq => ?_)
        · have hc2 : (pl.take (j + 1)).count (k : Int) = (pl.take j).count (k : Int) + 1 := by
            rw [List.take_succ_eq_append_getElem hj2, List.count_append, heq]; simp
          simp only [↓sxD, ↓sxP0, sxP1, sxF, sxA, sxS, sxK, encs, tys, sxN, sevalprocAttr, ne_eq, decide_true, decide_false]
          repeat ((with_reducible refine Vc.go ?_ fun _ => ?_); (focus (first | omega | (simp only [InK]; omega) | (simp [hlj, InK]; done) | (simp [hlj, InK]; omega))); simp only [↓sxD, ↓sxP0, sxP1, sxF, sxA, sxS, sxK, encs, tys, sxN, sevalprocAttr, ne_eq, decide_true, decide_false])
          refine ⟨j + 1, StLe.auto (by simp only [sxS, sxL, sxF, encs, sxN, sevalprocAttr, ne_eq, decide_true, decide_false] <;> (try simp [hc2, List.replicate_succ', encs]) <;> (try omega)), ?_, ?_⟩
          · omega
          · omega
        · have hc2 : (pl.take (j + 1)).count (k : Int) = (pl.take j).count (k : Int) := by
            rw [List.take_succ_eq_append_getElem hj2, List.count_append]; simp [heq]
          simp only [↓sxD, ↓sxP0, sxP1, sxF, sxA, sxS, sxK, encs, tys, sxN, sevalprocAttr, ne_eq, decide_true, decide_false]
          repeat ((with_reducible refine Vc.go ?_ fun _ => ?_); (focus (first | omega | (simp only [InK]; omega) | (simp [hlj, InK]; done) | (simp [hlj, InK]; omega))); simp only [↓sxD, ↓sxP0, sxP1, sxF, sxA, sxS, sxK, encs, tys, sxN, sevalprocAttr, ne_eq, decide_true, decide_false])
          refine ⟨j + 1, StLe.auto (by simp only [sxS, sxL, sxF, encs, sxN, sevalprocAttr, ne_eq, decide_true, decide_false] <;> (try simp [hc2, encs]) <;> (try omega)), ?_, ?_⟩
          · omega
          · omega
      · have hje : j = pl.length := by omega
        subst hje
        rw [List.take_length]
        simp only [↓sxD, ↓sxP0, sxP1, sxF, sxA, sxS, sxK, encs, tys, sxN, sevalprocAttr, ne_eq, decide_true, decide_false]
        repeat ((with_reducible refine Vc.go ?_ fun _ => ?_); (focus (first | omega | (simp only [InK]; omega) | (simp [InK]; done) | (simp [InK]; omega))); simp only [↓sxD, ↓sxP0, sxP1, sxF, sxA, sxS, sxK, encs, tys, sxN, sevalprocAttr, ne_eq, decide_true, decide_false])
        refine ⟨k + 1, StLe.auto (by simp only [sxS, sxL, sxF, encs, sxN, sevalprocAttr, ne_eq, decide_true, decide_false] <;> (try simp [bndK_succ, bndP, hA, encs]) <;> (try omega)), ?_, ?_⟩
        · omega
        · omega
  · simp only [↓sxD, ↓sxP0, sxP1, sxF, sxA, sxS, sxK, encs, tys, sxN, sevalprocAttr, ne_eq, decide_true, decide_false]
    have : k = P + 1 := by omega
    subst this
    exact EndW.fn (by simp only [sxL, encs, kpLL_map, sxN, sevalprocAttr, ne_eq, decide_true, decide_false] <;> (try simp) <;> (try omega)) (by simp only [sxL, encs, kpLL_map, sxN, sevalprocAttr, ne_eq, decide_true, decide_false] <;> (try simp) <;> (try omega))
end Go.Proofs.Ytfpkpokkgbobmaa
