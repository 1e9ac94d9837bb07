/-
  Chapter 9, walks: what is left, all orders by the reference, tables of minutes.
-/
import Derived.Test.YtaagelngbbkllaaVW25
import Derived.Test.YtaagelngbbkllaaVW16
namespace Go.Proofs.Ytaagelngbbkllaa
open Go Go.Vx
set_option linter.unusedSimpArgs false
set_option linter.unusedVariables false
set_option maxRecDepth 20000
/-- the numbers below 'k' that do not stand in a list. -/
def othK (o : List Int) : Nat → List Int
  | 0 => []
  | k + 1 => othK o k ++ if memB (k : Int) o = true then [] else [(k : Int)]
theorem othK_len (o : List Int) : ∀ k, (othK o k).length ≤ k
  | 0 => Nat.le_refl _
  | k + 1 => by
    have := othK_len o k
    simp only [othK, List.length_append]
    split <;> simp <;> omega
theorem others_s (b : Bool) (o : List Int) (n : Nat) (hn : n ≤ 1000) (ho : o.length ≤ 1000000) : Ctr Try.prog 134 [.sl b 1 (o.map eI), (.v (.int .i64 ((n : Int))))] (fun rr => rr = ⟨.sl true 1 ((othK o n).map eI), []⟩) := by
  refine Ctr.of (rs := [.tmp 4]) Tok true Try.func134 rfl rfl rfl rfl (by simp [ofDL]) (fun w0 kp => ?_)
  simp only [↓sxD, ↓sxP0, ↓sxGd, sxP1, sxF, sxA, sxS, sxK, sxG, sxH, sxU, encs, tys, sxN, sevalprocAttr, ne_eq, decide_true, decide_false]
  refine LoopW.comp [0, 1, 5, 6] (by simp only [sxS, sxL, sxF, sxG, sxH, sxU, encs, sxN, sevalprocAttr, ne_eq, decide_true, decide_false] <;> (try simp) <;> (try omega)) ?_
  simp only [sxS, sxF, sxG, sxH, sxU, sxN, sevalprocAttr, ne_eq, decide_true, decide_false]
  refine LoopW.up Tok (fun k : Nat => [(5, .row 0), (6, (.v (.int .i64 k)))]) (fun k => []) (fun k => []) (fun k => [.own 3 1 ((othK o k).map eI)]) (fun k => k ≤ n) (fun k => n - k) (0) (by simp only [sxS, sxL, sxF, sxG, sxH, sxU, encs, sxN, sevalprocAttr, ne_eq, decide_true, decide_false] <;> (try simp [othK, encs]) <;> (try omega)) ?_ ?_
  · omega
  rintro k hk
  simp only [↓sxD, ↓sxP0, ↓sxGd, sxP1, sxF, sxA, sxS, sxK, sxG, sxH, sxU, encs, tys, sxN, sevalprocAttr, ne_eq, decide_true, decide_false]
  refine BrW.dec (fun hlt => ?_) (fun hlt => ?_)
  · simp only [↓sxD, ↓sxP0, ↓sxGd, sxP1, sxF, sxA, sxS, sxK, sxG, sxH, sxU, encs, tys, sxN, sevalprocAttr, ne_eq, decide_true, decide_false]
    have hlt : k < n := by omega
    have hl := othK_len o k
    refine CallI.fn (has_s b o (k : Int) (by omega)) (by simp only [sxA, sxL, sxF, sxG, sxH, sxU, encs, sxN, sevalprocAttr, ne_eq, decide_true, decide_false] <;> (try simp) <;> (try rfl)) ?_
    simp only [↓sxD, ↓sxP0, ↓sxGd, sxP1, sxF, sxA, sxS, sxK, sxG, sxH, sxU, encs, tys, sxN, sevalprocAttr, ne_eq, decide_true, decide_false]
    refine BrW.of (fun hm => ?_) (fun hm => ?_)
    · simp only [↓sxD, ↓sxP0, ↓sxGd, sxP1, sxF, sxA, sxS, sxK, sxG, sxH, sxU, encs, tys, sxN, sevalprocAttr, ne_eq, decide_true, decide_false]
      have he : othK o (k + 1) = othK o k := by simp only [othK, hm]; simp
      repeat ((with_reducible refine Vc.go ?_ fun _ => ?_); (focus (first | omega | (simp only [InK]; omega) | (simp [InK]; done) | (simp [InK]; omega))); simp only [↓sxD, ↓sxP0, ↓sxGd, sxP1, sxF, sxA, sxS, sxK, sxG, sxH, sxU, encs, tys, sxN, sevalprocAttr, ne_eq, decide_true, decide_false])
      refine ⟨k + 1, StLe.auto (by simp only [sxS, sxL, sxF, sxG, sxH, sxU, encs, sxN, sevalprocAttr, ne_eq, decide_true, decide_false] <;> (try simp [he, encs]) <;> (try omega)), ?_, ?_⟩
      · omega
      · omega
    · simp only [↓sxD, ↓sxP0, ↓sxGd, sxP1, sxF, sxA, sxS, sxK, sxG, sxH, sxU, encs, tys, sxN, sevalprocAttr, ne_eq, decide_true, decide_false]
      have he : othK o (k + 1) = othK o k ++ [(k : Int)] := by simp only [othK, hm]; simp
      repeat ((with_reducible refine Vc.go ?_ fun _ => ?_); (focus (first | omega | (simp only [InK]; omega) | (simp [InK]; done) | (simp [InK]; omega))); simp only [↓sxD, ↓sxP0, ↓sxGd, sxP1, sxF, sxA, sxS, sxK, sxG, sxH, sxU, encs, tys, sxN, sevalprocAttr, ne_eq, decide_true, decide_false])
      refine ⟨k + 1, StLe.auto (by simp only [sxS, sxL, sxF, sxG, sxH, sxU, encs, sxN, sevalprocAttr, ne_eq, decide_true, decide_false] <;> (try simp [he, encs]) <;> (try omega)), ?_, ?_⟩
      · omega
      · omega
  · simp only [↓sxD, ↓sxP0, ↓sxGd, sxP1, sxF, sxA, sxS, sxK, sxG, sxH, sxU, encs, tys, sxN, sevalprocAttr, ne_eq, decide_true, decide_false]
    have hke : k = n := by omega
    subst hke
    exact EndW.fn (by simp only [sxL, sxG, sxH, sxU, encs, kpLL_map, sxN, sevalprocAttr, ne_eq, decide_true, decide_false] <;> (try simp) <;> (try omega)) (by simp only [sxL, sxG, sxH, sxU, encs, kpLL_map, sxN, sevalprocAttr, ne_eq, decide_true, decide_false] <;> (try simp) <;> (try omega))
theorem copyIntsOwn_s (b : Bool) (l : List Int) (hl : l.length ≤ 1000000) : Ctr Try.prog 43 [.sl b 1 (l.map eI)] (fun rr => rr = ⟨.row 0, [.own 3 1 (l.map eI)]⟩) := by
  refine Ctr.of (rs := [.tmp 2]) Tok false Try.func43 rfl rfl rfl rfl (by simp [ofDL]) (fun w0 kp => ?_)
  simp only [↓sxD, ↓sxP0, ↓sxGd, sxP1, sxF, sxA, sxS, sxK, sxG, sxH, sxU, encs, tys, sxN, sevalprocAttr, ne_eq, decide_true, decide_false]
  repeat ((with_reducible refine Vc.go ?_ fun _ => ?_); (focus (first | omega | (simp only [InK]; omega) | (simp [InK]; done) | (simp [InK]; omega))); simp only [↓sxD, ↓sxP0, ↓sxGd, sxP1, sxF, sxA, sxS, sxK, sxG, sxH, sxU, encs, tys, sxN, sevalprocAttr, ne_eq, decide_true, decide_false])
  exact EndW.r [some 1] (by simp) (by simp only [sxL, sxF, sxG, sxH, sxU, encs, kpLL_map, sxN, sevalprocAttr, ne_eq, decide_true, decide_false] <;> simp [kpL, kpD]) (by simp only [sxL, sxF, sxG, sxH, sxU, encs, kpLL_map, sxN, sevalprocAttr, ne_eq, decide_true, decide_false] <;> simp [kpL, kpD]) (by simp only [sxL, sxF, sxG, sxH, sxU, encs, kpLL_map, sxN, sevalprocAttr, ne_eq, decide_true, decide_false] <;> simp [kpL, kpD]) (by simp only [sxL, sxF, sxG, sxH, sxU, encs, kpLL_map, sxN, sevalprocAttr, ne_eq, decide_true, decide_false] <;> simp [kpL, kpD])
theorem flatMap_len {α β : Type} {f : α → List β} {B : Nat} : ∀ {l : List α}, (∀ a ∈ l, (f a).length ≤ B) → (l.flatMap f).length ≤ l.length * B
  | [], _ => by simp
  | a :: l, h => by
    have h1 := h a (by simp)
    have h2 := flatMap_len (l := l) fun x hx => h x (List.mem_cons_of_mem _ hx)
    simp only [List.flatMap_cons, List.length_append, List.length_cons, Nat.succ_mul]
    omega
theorem ordL_len (n : Nat) : ∀ (m : Nat) (head : List Int), (ordL n m head).length ≤ n ^ m
  | 0, head => by simp [ordL]
  | m + 1, head => by
    have h := flatMap_len (l := List.range n) (f := fun i : Nat => if memB (i : Int) head = true then [] else ordL n m (head ++ [(i : Int)])) (B := n ^ m) fun i _ => by
      have := ordL_len n m (head ++ [(i : Int)])
      split
      · simp
      · exact this
    rw [List.length_range] at h
    rw [Nat.pow_succ, Nat.mul_comm]; exact h
def oFl (n m : Nat) (head : List Int) (l : List Int) : List (List Int) := l.flatMap fun a => ordL n m (head ++ [a])
theorem othK_fl (n m : Nat) (head : List Int) : ∀ k, oFl n m head (othK head k) = ysL n m head k
  | 0 => rfl
  | k + 1 => by
    rw [ysL_succ, ← othK_fl n m head k, othK, oFl, List.flatMap_append, pcL]
    unfold oFl
    split <;> simp
theorem oFl_all (n m : Nat) (head : List Int) : oFl n m head (othK head n) = ordL n (m + 1) head := by rw [othK_fl, ysL_all]
theorem oFl_succ {n m : Nat} {head l : List Int} {k : Nat} (h : k < l.length) : oFl n m head (l.take (k + 1)) = oFl n m head (l.take k) ++ ordL n m (head ++ [l[k]]) := by
  unfold oFl
  rw [List.take_succ_eq_append_getElem h, List.flatMap_append]; simp
theorem pow6 : ∀ m, m ≤ 6 → 6 ^ m ≤ 46656
  | 0, _ => by decide
  | 1, _ => by decide
  | 2, _ => by decide
  | 3, _ => by decide
  | 4, _ => by decide
  | 5, _ => by decide
  | 6, _ => by decide
  | n + 7, h => by omega
theorem ordL_b {n m : Nat} (hn : n ≤ 6) (hm : m ≤ 6) (head : List Int) : (ordL n m head).length ≤ 46656 :=
  Nat.le_trans (ordL_len n m head) (Nat.le_trans (Nat.pow_le_pow_left hn m) (pow6 m hm))
theorem oFl_b {n m : Nat} (hn : n ≤ 6) (hm : m ≤ 6) (head : List Int) {l : List Int} (hl : l.length ≤ 6) : (oFl n m head l).length ≤ 300000 := by
  have h := flatMap_len (l := l) (f := fun a => ordL n m (head ++ [a])) (B := 46656) fun a _ => ordL_b hn hm _
  have h2 : l.length * 46656 ≤ 6 * 46656 := Nat.mul_le_mul_right _ hl
  show (l.flatMap _).length ≤ _
  omega
theorem ordersR_s (n : Nat) (hn : n ≤ 6) : ∀ (m : Nat) (b : Bool) (head : List Int), head.length + m = n → Ctr Try.prog 116 [.sl b 1 (head.map eI), (.v (.int .i64 ((n : Int))))] (fun rr => rr = ⟨.sl true 1 ((ordL n m head).map (eIB true)), []⟩)
  | 0, b, head, hm => by
    refine Ctr.of (rs := [.tmp 4]) Tok true Try.func116 rfl rfl rfl rfl (by simp [ofDL]) (fun w0 kp => ?_)
    simp only [↓sxD, ↓sxP0, ↓sxGd, sxP1, sxF, sxA, sxS, sxK, sxG, sxH, sxU, encs, tys, sxN, sevalprocAttr, ne_eq, decide_true, decide_false]
    refine BrW.yes (by omega) ?_
    simp only [↓sxD, ↓sxP0, ↓sxGd, sxP1, sxF, sxA, sxS, sxK, sxG, sxH, sxU, encs, tys, sxN, sevalprocAttr, ne_eq, decide_true, decide_false]
    refine CallI.fn (copyInts_s b head (by omega)) (by simp only [sxA, sxL, sxF, sxG, sxH, sxU, encs, sxN, sevalprocAttr, ne_eq, decide_true, decide_false] <;> (try simp) <;> (try rfl)) ?_
    simp only [↓sxD, ↓sxP0, ↓sxGd, sxP1, sxF, sxA, sxS, sxK, sxG, sxH, sxU, encs, tys, sxN, sevalprocAttr, ne_eq, decide_true, decide_false]
    repeat ((with_reducible refine Vc.go ?_ fun _ => ?_); (focus (first | omega | (simp only [InK]; omega) | (simp [InK]; done) | (simp [InK]; omega))); simp only [↓sxD, ↓sxP0, ↓sxGd, sxP1, sxF, sxA, sxS, sxK, sxG, sxH, sxU, encs, tys, sxN, sevalprocAttr, ne_eq, decide_true, decide_false])
    exact EndW.fn (by simp only [sxL, sxG, sxH, sxU, encs, kpLL_map, sxN, sevalprocAttr, ne_eq, decide_true, decide_false] <;> (try simp [ordL, eIB]) <;> (try omega)) (by simp only [sxL, sxG, sxH, sxU, encs, kpLL_map, sxN, sevalprocAttr, ne_eq, decide_true, decide_false] <;> (try simp) <;> (try omega))
  | m + 1, b, head, hm => by
    refine Ctr.of (rs := [.tmp 4]) Tok true Try.func116 rfl rfl rfl rfl (by simp [ofDL]) (fun w0 kp => ?_)
    simp only [↓sxD, ↓sxP0, ↓sxGd, sxP1, sxF, sxA, sxS, sxK, sxG, sxH, sxU, encs, tys, sxN, sevalprocAttr, ne_eq, decide_true, decide_false]
    refine BrW.no (by omega) ?_
    simp only [↓sxD, ↓sxP0, ↓sxGd, sxP1, sxF, sxA, sxS, sxK, sxG, sxH, sxU, encs, tys, sxN, sevalprocAttr, ne_eq, decide_true, decide_false]
    refine CallI.fn (others_s b head n (by omega) (by omega)) (by simp only [sxA, sxL, sxF, sxG, sxH, sxU, encs, sxN, sevalprocAttr, ne_eq, decide_true, decide_false] <;> (try simp) <;> (try rfl)) ?_
    simp only [↓sxD, ↓sxP0, ↓sxGd, sxP1, sxF, sxA, sxS, sxK, sxG, sxH, sxU, encs, tys, sxN, sevalprocAttr, ne_eq, decide_true, decide_false]
    have hol := othK_len head n
    refine LoopW.comp [0, 1, 5, 6, 7] (by simp only [sxS, sxL, sxF, sxG, sxH, sxU, encs, sxN, sevalprocAttr, ne_eq, decide_true, decide_false] <;> (try simp) <;> (try omega)) ?_
    simp only [sxS, sxF, sxG, sxH, sxU, sxN, sevalprocAttr, ne_eq, decide_true, decide_false]
    refine LoopW.up Tok (fun k : Nat => [(5, .row 0), (7, (.v (.int .i64 k)))]) (fun k => []) (fun k => []) (fun k => [.own 59 1 ((oFl n m head ((othK head n).take k)).map (eIB true))]) (fun k => k ≤ (othK head n).length) (fun k => (othK head n).length - k) (0) (by simp only [sxS, sxL, sxF, sxG, sxH, sxU, encs, sxN, sevalprocAttr, ne_eq, decide_true, decide_false] <;> (try simp [oFl, encs]) <;> (try omega)) ?_ ?_
    · omega
    rintro k hk
    simp only [↓sxD, ↓sxP0, ↓sxGd, sxP1, sxF, sxA, sxS, sxK, sxG, sxH, sxU, encs, tys, sxN, sevalprocAttr, ne_eq, decide_true, decide_false]
    refine BrW.dec (fun hlt => ?_) (fun hlt => ?_)
    · simp only [↓sxD, ↓sxP0, ↓sxGd, sxP1, sxF, sxA, sxS, sxK, sxG, sxH, sxU, encs, tys, sxN, sevalprocAttr, ne_eq, decide_true, decide_false]
      have hlt : k < (othK head n).length := by omega
      have hc1 := copyIntsOwn_s b head (by omega)
      have hrec := ordersR_s n hn m false (head ++ [(othK head n)[k]]) (by simp; omega)
      have hfb := oFl_b (n := n) (m := m) hn (by omega) head (l := (othK head n).take k) (by simp; omega)
      have hob := ordL_b (n := n) (m := m) hn (by omega) (head ++ [(othK head n)[k]])
      refine DrawW.plan Tok mixed (.q 0 <| .q 1 <| .q 3 <| .q 4 <| .q 5 <| .q 6 <| .q 9 <| .e2 2 [6] (.e 7 [] <| .e 8 [] <| .e 10 [] <| .e 11 [] <| .q 12 <| .done) 7 [] (.e 2 [6] <| .e 8 [] <| .e 10 [] <| .e 11 [] <| .q 12 <| .done)) (by kernel_rfl) (by kernel_rfl) ?_
      simp only [↓sxD, ↓sxP0, ↓sxGd, sxP1, sxF, sxA, sxS, sxK, sxG, sxH, sxU, encs, tys, sxN, sevalprocAttr, ne_eq, decide_true, decide_false]
      refine IxW.nat hlt ?_
      simp only [↓sxD, ↓sxP0, ↓sxGd, sxP1, sxF, sxA, sxS, sxK, sxG, sxH, sxU, encs, tys, sxN, sevalprocAttr, ne_eq, decide_true, decide_false]
      have hos := oFl_succ (n := n) (m := m) (head := head) hlt
      refine ⟨?_, ?_⟩
      all_goals (
        skip
        refine CallI.ctr (hc1) (by simp only [sxA, sxL, sxF, sxG, sxH, sxU, encs, sxN, sevalprocAttr, ne_eq, decide_true, decide_false] <;> (try simp) <;> (try rfl)) ?_
        rintro _ rfl
        simp only [↓sxD, ↓sxP0, ↓sxGd, sxP1, sxF, sxA, sxS, sxK, sxG, sxH, sxU, encs, tys, sxN, sevalprocAttr, ne_eq, decide_true, decide_false]
        repeat ((with_reducible refine Vc.go ?_ fun _ => ?_); (focus (first | omega | (simp only [InK]; omega) | (simp [InK]; done) | (simp [InK]; omega))); simp only [↓sxD, ↓sxP0, ↓sxGd, sxP1, sxF, sxA, sxS, sxK, sxG, sxH, sxU, encs, tys, sxN, sevalprocAttr, ne_eq, decide_true, decide_false])
        refine CallI.fn (hrec) (by simp only [sxA, sxL, sxF, sxG, sxH, sxU, encs, sxN, sevalprocAttr, ne_eq, decide_true, decide_false] <;> (try simp) <;> (try rfl)) ?_
        simp only [↓sxD, ↓sxP0, ↓sxGd, sxP1, sxF, sxA, sxS, sxK, sxG, sxH, sxU, encs, tys, sxN, sevalprocAttr, ne_eq, decide_true, decide_false]
        repeat ((with_reducible refine Vc.go ?_ fun _ => ?_); (focus (first | omega | (simp only [InK]; omega) | (simp [InK]; done) | (simp [InK]; omega))); simp only [↓sxD, ↓sxP0, ↓sxGd, sxP1, sxF, sxA, sxS, sxK, sxG, sxH, sxU, encs, tys, sxN, sevalprocAttr, ne_eq, decide_true, decide_false])
        refine ⟨k + 1, StLe.auto (by simp only [sxS, sxL, sxF, sxG, sxH, sxU, encs, sxN, sevalprocAttr, ne_eq, decide_true, decide_false] <;> (try simp [hos, encs]) <;> (try omega)), ?_, ?_⟩
        · omega
        · omega)
    · simp only [↓sxD, ↓sxP0, ↓sxGd, sxP1, sxF, sxA, sxS, sxK, sxG, sxH, sxU, encs, tys, sxN, sevalprocAttr, ne_eq, decide_true, decide_false]
      have hke : k = (othK head n).length := by omega
      subst hke
      rw [List.take_length, oFl_all]
      exact EndW.fn (by simp only [sxL, sxG, sxH, sxU, encs, kpLL_map, sxN, sevalprocAttr, ne_eq, decide_true, decide_false] <;> (try simp) <;> (try omega)) (by simp only [sxL, sxG, sxH, sxU, encs, kpLL_map, sxN, sevalprocAttr, ne_eq, decide_true, decide_false] <;> (try simp) <;> (try omega))
end Go.Proofs.Ytaagelngbbkllaa
