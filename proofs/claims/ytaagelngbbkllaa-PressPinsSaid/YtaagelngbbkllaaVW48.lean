/-
  Chapter 9, walks: whether colours are in register.
-/
import Derived.Test.YtaagelngbbkllaaVW47
namespace Go.Proofs.Ytaagelngbbkllaa
open Go Go.Vx
set_option linter.unusedSimpArgs false
set_option linter.unusedVariables false
set_option maxRecDepth 20000
def noR (m : Int) (x : Int × Int) : Bool := decide (m < x.1) || decide (x.2 < -m)
def mbR (m : Int) (x : Int × Int) : Bool := decide (x.1 < -m) || decide (m < x.2)
def noP (m : Int) (p q : Pn) : Bool := (rgs (offP p q)).any (noR m)
def mbP (m : Int) (p q : Pn) : Bool := (rgs (offP p q)).any (mbR m)
theorem noP_comm (m : Int) (p q : Pn) : noP m p q = noP m q p := by
  rw [Bool.eq_iff_iff]
  simp [noP, rgs, offP, noR]
  omega
theorem mbP_comm (m : Int) (p q : Pn) : mbP m p q = mbP m q p := by
  rw [Bool.eq_iff_iff]
  simp [mbP, rgs, offP, mbR]
  omega
def anyP (n : Nat) (f : Nat → Nat → Bool) : Bool := (List.range n).any fun a => (List.range a).any fun b => f a b
theorem anyP_iff {n : Nat} {f : Nat → Nat → Bool} : anyP n f = true ↔ ∃ a b, b < a ∧ a < n ∧ f a b = true := by
  simp only [anyP, List.any_eq_true, List.mem_range]
  exact ⟨fun ⟨a, h1, b, h2, h3⟩ => ⟨a, b, h2, h1, h3⟩, fun ⟨a, b, h2, h1, h3⟩ => ⟨a, h1, b, h2, h3⟩⟩
def pn0 : Pn := ⟨0, 0, 0, 0, 0, 0⟩
def pinAt (l : List Pn) (k : Nat) : Pn := l.getD k pn0
theorem pinAt_get {l : List Pn} {k : Nat} (h : k < l.length) : l[k] = pinAt l k := by simp [pinAt, h]
def regV (l : List Pn) (m : Int) : Int := if anyP l.length (fun a b => noP m (pinAt l a) (pinAt l b)) = true then 0 else if anyP l.length (fun a b => mbP m (pinAt l a) (pinAt l b)) = true then 1 else 2
/-- what is known of the pairs that were looked at. -/
def Res (l : List Pn) (m : Int) (S : Nat → Nat → Prop) (ans : Int) : Prop :=
  (∀ a b, S a b → noP m (pinAt l a) (pinAt l b) = false) ∧ ((ans = 1 ∧ ∃ a b, S a b ∧ mbP m (pinAt l a) (pinAt l b) = true) ∨ (ans = 2 ∧ ∀ a b, S a b → mbP m (pinAt l a) (pinAt l b) = false))
theorem Res.none {l : List Pn} {m : Int} {S : Nat → Nat → Prop} (h : ∀ a b, ¬ S a b) : Res l m S 2 := ⟨fun a b hs => (h a b hs).elim, .inr ⟨rfl, fun a b hs => (h a b hs).elim⟩⟩
theorem Res.congr {l : List Pn} {m : Int} {S S' : Nat → Nat → Prop} {ans : Int} (h : Res l m S ans) (e : ∀ a b, S' a b ↔ S a b) : Res l m S' ans := by
  obtain ⟨h1, h2⟩ := h
  refine ⟨fun a b hs => h1 a b ((e a b).1 hs), h2.imp (fun ⟨k, a, b, h3, h4⟩ => ⟨k, a, b, (e a b).2 h3, h4⟩) fun ⟨k, h3⟩ => ⟨k, fun a b hs => h3 a b ((e a b).1 hs)⟩⟩
theorem Res.add {l : List Pn} {m : Int} {S S' : Nat → Nat → Prop} {ans ans' : Int} {i k : Nat} (h : Res l m S ans) (e : ∀ a b, S' a b ↔ S a b ∨ (a = i ∧ b = k)) (hn : noP m (pinAt l i) (pinAt l k) = false)
    (ha : (ans' = 1 ∧ mbP m (pinAt l i) (pinAt l k) = true) ∨ (ans' = ans ∧ mbP m (pinAt l i) (pinAt l k) = false)) : Res l m S' ans' := by
  obtain ⟨h1, h2⟩ := h
  refine ⟨fun a b hs => ?_, ?_⟩
  · rcases (e a b).1 hs with h | ⟨rfl, rfl⟩
    · exact h1 a b h
    · exact hn
  · rcases ha with ⟨rfl, hm⟩ | ⟨rfl, hm⟩
    · exact .inl ⟨rfl, i, k, (e i k).2 (.inr ⟨rfl, rfl⟩), hm⟩
    · rcases h2 with ⟨h3, a, b, h4, h5⟩ | ⟨h3, h4⟩
      · exact .inl ⟨h3, a, b, (e a b).2 (.inl h4), h5⟩
      · refine .inr ⟨h3, fun a b hs => ?_⟩
        rcases (e a b).1 hs with h | ⟨rfl, rfl⟩
        · exact h4 a b h
        · exact hm
theorem Res.done {l : List Pn} {m : Int} {S : Nat → Nat → Prop} {ans : Int} (h : Res l m S ans) (e : ∀ a b, S a b ↔ b < a ∧ a < l.length) : regV l m = ans := by
  obtain ⟨h1, h2⟩ := h
  have hn : ¬ anyP l.length (fun a b => noP m (pinAt l a) (pinAt l b)) = true := fun hc => by
    obtain ⟨a, b, h3, h4, h5⟩ := anyP_iff.1 hc
    rw [h1 a b ((e a b).2 ⟨h3, h4⟩)] at h5; cases h5
  rw [regV, if_neg hn]
  rcases h2 with ⟨rfl, a, b, h3, h4⟩ | ⟨rfl, h3⟩
  · rw [if_pos (anyP_iff.2 ⟨a, b, ((e a b).1 h3).1, ((e a b).1 h3).2, h4⟩)]
  · rw [if_neg fun hc => by
      obtain ⟨a, b, h5, h6, h7⟩ := anyP_iff.1 hc
      rw [h3 a b ((e a b).2 ⟨h5, h6⟩)] at h7; cases h7]
theorem regV_no {l : List Pn} {m : Int} {i k : Nat} (h1 : k < i) (h2 : i < l.length) (h : noP m (pinAt l i) (pinAt l k) = true) : regV l m = 0 := by
  rw [regV, if_pos (anyP_iff.2 ⟨i, k, h1, h2, h⟩)]
/-- a pin that is right -/
theorem okP_of {p : Pn} (h : pinE p = 0) : OkP p := by
  unfold pinE at h
  split at h
  · omega
  · rename_i hn
    simp [rgs, badR, plc] at hn
    exact ⟨hn.1.1, hn.1.2, hn.2.1.1, hn.2.1.2, hn.2.2.1, hn.2.2.2⟩
theorem okP_all {l : List Pn} (h : pinsErr l = 0) : ∀ k, OkP (pinAt l k) := by
  have key : ∀ l : List Pn, pinsE l = 0 → ∀ p ∈ l, OkP p := fun l => by
    induction l with
    | nil => intro _ p hp; cases hp
    | cons q l ih =>
      intro h p hp
      unfold pinsE at h
      split at h
      · rename_i h0
        rcases List.mem_cons.1 hp with rfl | hp
        · exact okP_of h0
        · exact ih h p hp
      · contradiction
  intro k
  by_cases hk : k < l.length
  · rw [← pinAt_get hk]
    unfold pinsErr at h
    split at h
    · omega
    · split at h
      · omega
      · exact key l h _ (List.getElem_mem hk)
  · have : pinAt l k = pn0 := by simp [pinAt, Nat.not_lt.1 hk]
    rw [this]
    simp [OkP, pn0]
theorem pins_len {l : List Pn} (h : pinsErr l = 0) : l.length ≤ 8 := by
  unfold pinsErr at h
  split at h
  · omega
  · split at h <;> omega
def regP (l : List Pn) (m : Int) : Int × Int := if pinsErr l = 0 then (if 0 ≤ m ∧ m ≤ 1000000 then (regV l m, 0) else (0, 2)) else (0, pinsErr l)
/-- inside the three parts of an offset -/
def Rin (m : Int) (o : Pn) (a0 : Int) (x : Nat × Int) : Prop :=
  x.1 ≤ 3 ∧ ((rgs o).take x.1).any (noR m) = false ∧ ((x.2 = 1 ∧ ((rgs o).take x.1).any (mbR m) = true) ∨ (x.2 = a0 ∧ ((rgs o).take x.1).any (mbR m) = false))
theorem Rin.step {m : Int} {o : Pn} {a0 a a' : Int} {j : Nat} (x : Int × Int) (hx : (rgs o)[j]? = some x) (h : Rin m o a0 (j, a)) (hn : noR m x = false) (ha : (a' = 1 ∧ mbR m x = true) ∨ (a' = a ∧ mbR m x = false)) : Rin m o a0 (j + 1, a') := by
  obtain ⟨h1, h2, h3⟩ := h
  have hj : j < 3 := by
    have := (List.getElem?_eq_some_iff.1 hx).1
    simpa [rgs] using this
  simp only at h1 h2 h3
  refine ⟨hj, ?_, ?_⟩
  · simp only [List.take_add_one, hx, Option.toList_some, List.any_append, List.any_cons, List.any_nil, Bool.or_false, h2, hn]
  · simp only [List.take_add_one, hx, Option.toList_some, List.any_append, List.any_cons, List.any_nil, Bool.or_false]
    rcases ha with ⟨rfl, hm⟩ | ⟨rfl, hm⟩
    · exact .inl ⟨rfl, by simp [hm]⟩
    · rcases h3 with ⟨h4, h5⟩ | ⟨h4, h5⟩
      · exact .inl ⟨h4, by simp [h5]⟩
      · exact .inr ⟨h4, by simp [h5, hm]⟩
theorem Rin.add {m : Int} {p q : Pn} {a0 a : Int} (h : Rin m (offP p q) a0 (3, a)) : noP m p q = false ∧ ((a = 1 ∧ mbP m p q = true) ∨ (a = a0 ∧ mbP m p q = false)) := h.2
set_option maxHeartbeats 4000000 in
theorem inRegister_s (b : Bool) (l : List Pn) (m : Int) : Ctr Try.prog 59 [.sl b 6 (l.map eP), (.v (.int .i64 m))] (fun rr => rr = ⟨.tup [(.v (.int .i64 ((regP l m).1))), (.v (.int .i64 ((regP l m).2)))], []⟩) := by
  have encs := And.intro encs (show ∀ p, pnV p = .agg [(.v (.int .i64 p.a)), (.v (.int .i64 p.b)), (.v (.int .i64 p.c)), (.v (.int .i64 p.d)), (.v (.int .i64 p.e)), (.v (.int .i64 p.f))] from fun _ => rfl)
  refine Ctr.of (rs := [.tmp 4, .tmp 5]) Tok true Try.func59 rfl rfl rfl rfl (by simp [ofDL]) (fun w0 kp => ?_)
  simp only [↓sxD, ↓sxP0, ↓sxP3, ↓sxGd, sxP1, sxF, sxA, sxS, sxK, sxG, sxZ, sxH, sxU, encs, tys, sxN, sevalprocAttr, ne_eq, decide_true, decide_false]
  refine CallI.fn (checkPins_s b l) (by simp only [sxA, sxL, sxF, sxG, sxH, sxU, encs, sxN, sevalprocAttr, ne_eq, decide_true, decide_false] <;> (try simp) <;> (try rfl)) ?_
  simp only [↓sxD, ↓sxP0, ↓sxP3, ↓sxGd, sxP1, sxF, sxA, sxS, sxK, sxG, sxZ, sxH, sxU, encs, tys, sxN, sevalprocAttr, ne_eq, decide_true, decide_false]
  refine BrW.dec (fun h1 => ?_) (fun h1 => ?_)
  · simp only [↓sxD, ↓sxP0, ↓sxP3, ↓sxGd, sxP1, sxF, sxA, sxS, sxK, sxG, sxZ, sxH, sxU, encs, tys, sxN, sevalprocAttr, ne_eq, decide_true, decide_false]
    rw [show regP l m = (0, pinsErr l) by rw [regP, if_neg h1]]
    exact EndW.fn (by simp only [sxL, sxG, sxH, sxU, encs, kpLL_map, sxN, sevalprocAttr, ne_eq, decide_true, decide_false] <;> (try simp) <;> (try omega)) (by simp only [sxL, sxG, sxH, sxU, encs, kpLL_map, sxN, sevalprocAttr, ne_eq, decide_true, decide_false] <;> (try simp) <;> (try omega))
  · have h1 : pinsErr l = 0 := Decidable.not_not.1 h1
    have hok := okP_all h1
    have hlen := pins_len h1
    simp only [↓sxD, ↓sxP0, ↓sxP3, ↓sxGd, sxP1, sxF, sxA, sxS, sxK, sxG, sxZ, sxH, sxU, encs, tys, sxN, sevalprocAttr, ne_eq, decide_true, decide_false]
    refine CallI.fn (within_s m 0 1000000) (by simp only [sxA, sxL, sxF, sxG, sxH, sxU, encs, sxN, sevalprocAttr, ne_eq, decide_true, decide_false] <;> (try simp) <;> (try rfl)) ?_
    simp only [↓sxD, ↓sxP0, ↓sxP3, ↓sxGd, sxP1, sxF, sxA, sxS, sxK, sxG, sxZ, sxH, sxU, encs, tys, sxN, sevalprocAttr, ne_eq, decide_true, decide_false]
    refine BrW.of (fun hw => ?_) (fun hw => ?_)
    · have hw : 0 ≤ m ∧ m ≤ 1000000 := by simpa using hw
      rw [show regP l m = (regV l m, 0) by rw [regP, if_pos h1, if_pos hw]]
      simp only [↓sxD, ↓sxP0, ↓sxP3, ↓sxGd, sxP1, sxF, sxA, sxS, sxK, sxG, sxZ, sxH, sxU, encs, tys, sxN, sevalprocAttr, ne_eq, decide_true, decide_false]
      refine LoopW.comp [0, 1, 7, 22, 23, 24] (by simp only [sxS, sxL, sxF, sxG, sxH, sxU, encs, sxN, sevalprocAttr, ne_eq, decide_true, decide_false] <;> (try simp) <;> (try omega)) ?_
      simp only [sxS, sxF, sxG, sxH, sxU, sxN, sevalprocAttr, ne_eq, decide_true, decide_false]
      refine LoopW.up Tok (fun x : Nat × Int => [(24, (.v (.int .i64 x.1))), (7, (.v (.int .i64 x.2)))]) (fun x => []) (fun x => []) (fun x => []) (fun x => x.1 ≤ l.length ∧ Res l m (fun a b => b < a ∧ a < x.1) x.2) (fun x => l.length - x.1) ((0, 2)) (by simp only [sxS, sxL, sxF, sxG, sxH, sxU, encs, sxN, sevalprocAttr, ne_eq, decide_true, decide_false] <;> (try simp) <;> (try omega)) ?_ ?_
      · exact ⟨by omega, Res.none fun a b h => by omega⟩
      rintro ⟨i, a1⟩ ⟨hi, hr1⟩
      simp only at hi hr1
      simp only [↓sxD, ↓sxP0, ↓sxP3, ↓sxGd, sxP1, sxF, sxA, sxS, sxK, sxG, sxZ, sxH, sxU, encs, tys, sxN, sevalprocAttr, ne_eq, decide_true, decide_false]
      refine BrW.dec (fun hlt => ?_) (fun hlt => ?_)
      · simp only [↓sxD, ↓sxP0, ↓sxP3, ↓sxGd, sxP1, sxF, sxA, sxS, sxK, sxG, sxZ, sxH, sxU, encs, tys, sxN, sevalprocAttr, ne_eq, decide_true, decide_false]
        have hlt : i < l.length := by omega
        refine IxW.nat hlt ?_
        simp only [↓sxD, ↓sxP0, ↓sxP3, ↓sxGd, sxP1, sxF, sxA, sxS, sxK, sxG, sxZ, sxH, sxU, encs, tys, sxN, sevalprocAttr, ne_eq, decide_true, decide_false]
        repeat ((with_reducible refine Vc.go ?_ fun _ => ?_); (focus (first | omega | (simp only [InK]; omega) | (simp [InK]; done) | (simp [InK]; omega))); simp only [↓sxD, ↓sxP0, ↓sxP3, ↓sxGd, sxP1, sxF, sxA, sxS, sxK, sxG, sxZ, sxH, sxU, encs, tys, sxN, sevalprocAttr, ne_eq, decide_true, decide_false])
        refine LoopW.comp [0, 1, 7, 9, 22, 23, 24, 31, 32, 33] (by simp only [sxS, sxL, sxF, sxG, sxH, sxU, encs, sxN, sevalprocAttr, ne_eq, decide_true, decide_false] <;> (try simp) <;> (try omega)) ?_
        simp only [sxS, sxF, sxG, sxH, sxU, sxN, sevalprocAttr, ne_eq, decide_true, decide_false]
        refine LoopW.up Tok (fun x : Nat × Int => [(33, (.v (.int .i64 x.1))), (7, (.v (.int .i64 x.2)))]) (fun x => []) (fun x => []) (fun x => []) (fun x => x.1 ≤ i ∧ Res l m (fun a b => (b < a ∧ a < i) ∨ (a = i ∧ b < x.1)) x.2) (fun x => i - x.1) ((0, a1)) (by simp only [sxS, sxL, sxF, sxG, sxH, sxU, encs, sxN, sevalprocAttr, ne_eq, decide_true, decide_false] <;> (try simp) <;> (try omega)) ?_ ?_
        · exact ⟨by omega, hr1.congr fun a b => by simp⟩
        rintro ⟨k, a2⟩ ⟨hk, hr2⟩
        simp only at hk hr2
        simp only [↓sxD, ↓sxP0, ↓sxP3, ↓sxGd, sxP1, sxF, sxA, sxS, sxK, sxG, sxZ, sxH, sxU, encs, tys, sxN, sevalprocAttr, ne_eq, decide_true, decide_false]
        refine BrW.dec (fun hlt2 => ?_) (fun hlt2 => ?_)
        · simp only [↓sxD, ↓sxP0, ↓sxP3, ↓sxGd, sxP1, sxF, sxA, sxS, sxK, sxG, sxZ, sxH, sxU, encs, tys, sxN, sevalprocAttr, ne_eq, decide_true, decide_false]
          have hlt2 : k < i := by simp at hlt2; omega
          have hkl : k < l.length := by omega
          rw [Int.toNat_natCast, ← List.map_take]
          refine IxW.map (l[k]) (by omega) (by rw [List.getElem?_take_of_lt (by omega)]; simp [hkl]) ?_
          simp only [↓sxD, ↓sxP0, ↓sxP3, ↓sxGd, sxP1, sxF, sxA, sxS, sxK, sxG, sxZ, sxH, sxU, encs, tys, sxN, sevalprocAttr, ne_eq, decide_true, decide_false]
          rw [pinAt_get hlt, pinAt_get hkl]
          refine CallI.fn (offset_s (pinAt l i) (pinAt l k) (hok i) (hok k)) (by simp only [sxA, sxL, sxF, sxG, sxH, sxU, encs, sxN, sevalprocAttr, ne_eq, decide_true, decide_false] <;> (try simp) <;> (try rfl)) ?_
          simp only [↓sxD, ↓sxP0, ↓sxP3, ↓sxGd, sxP1, sxF, sxA, sxS, sxK, sxG, sxZ, sxH, sxU, encs, tys, sxN, sevalprocAttr, ne_eq, decide_true, decide_false]
          generalize ho : offP (pinAt l i) (pinAt l k) = o
          have hbl : -1000000 ≤ m ∧ m ≤ 1000000 := by omega
          refine LoopW.comp [0, 1, 7, 9, 22, 23, 24, 31, 32, 33, 39, 40] (by simp only [sxS, sxL, sxF, sxG, sxH, sxU, encs, sxN, sevalprocAttr, ne_eq, decide_true, decide_false] <;> (try simp) <;> (try omega)) ?_
          simp only [sxS, sxF, sxG, sxH, sxU, sxN, sevalprocAttr, ne_eq, decide_true, decide_false]
          refine LoopW.up Tok (fun x : Nat × Int => [(40, (.v (.int .i64 x.1))), (7, (.v (.int .i64 x.2)))]) (fun x => []) (fun x => []) (fun x => []) (fun x => Rin m o a2 x) (fun x => 3 - x.1) ((0, a2)) (by simp only [sxS, sxL, sxF, sxG, sxH, sxU, encs, sxN, sevalprocAttr, ne_eq, decide_true, decide_false] <;> (try simp) <;> (try omega)) ?_ ?_
          · exact ⟨by omega, by simp, .inr ⟨rfl, by simp⟩⟩
          rintro ⟨j, a3⟩ ⟨hj, hn, hm⟩
          have hnp : ∀ {x : Int × Int}, x ∈ rgs o → noR m x = true → regV l m = 0 := fun hx h => regV_no hlt2 hlt (by rw [noP, ho]; exact List.any_eq_true.2 ⟨_, hx, h⟩)
          obtain rfl | rfl | rfl | rfl : j = 0 ∨ j = 1 ∨ j = 2 ∨ j = 3 := by simp only at hj; omega
          · simp only [↓sxD, ↓sxP0, ↓sxP3, ↓sxGd, sxP1, sxF, sxA, sxS, sxK, sxG, sxZ, sxH, sxU, encs, tys, sxN, sevalprocAttr, ne_eq, decide_true, decide_false]
            refine ArrIx.go (by simp) ?_
            simp only [↓sxD, ↓sxP0, ↓sxP3, ↓sxGd, sxP1, sxF, sxA, sxS, sxK, sxG, sxZ, sxH, sxU, encs, tys, sxN, sevalprocAttr, ne_eq, decide_true, decide_false]
            repeat ((with_reducible refine Vc.go ?_ fun _ => ?_); (focus (first | omega | (simp only [InK]; omega) | (simp [InK]; done) | (simp [InK]; omega))); simp only [↓sxD, ↓sxP0, ↓sxP3, ↓sxGd, sxP1, sxF, sxA, sxS, sxK, sxG, sxZ, sxH, sxU, encs, tys, sxN, sevalprocAttr, ne_eq, decide_true, decide_false])
            refine BrW.dec (fun c1 => ?_) (fun c1 => ?_)
            · simp only [↓sxD, ↓sxP0, ↓sxP3, ↓sxGd, sxP1, sxF, sxA, sxS, sxK, sxG, sxZ, sxH, sxU, encs, tys, sxN, sevalprocAttr, ne_eq, decide_true, decide_false]
              rw [hnp (x := (o.a, o.b)) (by simp [rgs]) (by simp [noR]; omega)]
              exact EndW.fn (by simp only [sxL, sxG, sxH, sxU, encs, kpLL_map, sxN, sevalprocAttr, ne_eq, decide_true, decide_false] <;> (try simp) <;> (try omega)) (by simp only [sxL, sxG, sxH, sxU, encs, kpLL_map, sxN, sevalprocAttr, ne_eq, decide_true, decide_false] <;> (try simp) <;> (try omega))
            · simp only [↓sxD, ↓sxP0, ↓sxP3, ↓sxGd, sxP1, sxF, sxA, sxS, sxK, sxG, sxZ, sxH, sxU, encs, tys, sxN, sevalprocAttr, ne_eq, decide_true, decide_false]
              repeat ((with_reducible refine Vc.go ?_ fun _ => ?_); (focus (first | omega | (simp only [InK]; omega) | (simp [InK]; done) | (simp [InK]; omega))); simp only [↓sxD, ↓sxP0, ↓sxP3, ↓sxGd, sxP1, sxF, sxA, sxS, sxK, sxG, sxZ, sxH, sxU, encs, tys, sxN, sevalprocAttr, ne_eq, decide_true, decide_false])
              refine BrW.dec (fun c2 => ?_) (fun c2 => ?_)
              · simp only [↓sxD, ↓sxP0, ↓sxP3, ↓sxGd, sxP1, sxF, sxA, sxS, sxK, sxG, sxZ, sxH, sxU, encs, tys, sxN, sevalprocAttr, ne_eq, decide_true, decide_false]
                rw [hnp (x := (o.a, o.b)) (by simp [rgs]) (by simp [noR]; omega)]
                exact EndW.fn (by simp only [sxL, sxG, sxH, sxU, encs, kpLL_map, sxN, sevalprocAttr, ne_eq, decide_true, decide_false] <;> (try simp) <;> (try omega)) (by simp only [sxL, sxG, sxH, sxU, encs, kpLL_map, sxN, sevalprocAttr, ne_eq, decide_true, decide_false] <;> (try simp) <;> (try omega))
              · simp only [↓sxD, ↓sxP0, ↓sxP3, ↓sxGd, sxP1, sxF, sxA, sxS, sxK, sxG, sxZ, sxH, sxU, encs, tys, sxN, sevalprocAttr, ne_eq, decide_true, decide_false]
                have cn : noR m (o.a, o.b) = false := by simp [noR]; omega
                repeat ((with_reducible refine Vc.go ?_ fun _ => ?_); (focus (first | omega | (simp only [InK]; omega) | (simp [InK]; done) | (simp [InK]; omega))); simp only [↓sxD, ↓sxP0, ↓sxP3, ↓sxGd, sxP1, sxF, sxA, sxS, sxK, sxG, sxZ, sxH, sxU, encs, tys, sxN, sevalprocAttr, ne_eq, decide_true, decide_false])
                refine BrW.dec (fun c3 => ?_) (fun c3 => ?_)
                · simp only [↓sxD, ↓sxP0, ↓sxP3, ↓sxGd, sxP1, sxF, sxA, sxS, sxK, sxG, sxZ, sxH, sxU, encs, tys, sxN, sevalprocAttr, ne_eq, decide_true, decide_false]
                  repeat ((with_reducible refine Vc.go ?_ fun _ => ?_); (focus (first | omega | (simp only [InK]; omega) | (simp [InK]; done) | (simp [InK]; omega))); simp only [↓sxD, ↓sxP0, ↓sxP3, ↓sxGd, sxP1, sxF, sxA, sxS, sxK, sxG, sxZ, sxH, sxU, encs, tys, sxN, sevalprocAttr, ne_eq, decide_true, decide_false])
                  refine ⟨(1, 1), StLe.auto (by simp only [sxS, sxL, sxF, sxG, sxH, sxU, encs, sxN, sevalprocAttr, ne_eq, decide_true, decide_false] <;> (try simp) <;> (try omega)), ?_, ?_⟩
                  · exact Rin.step (o.a, o.b) rfl ⟨hj, hn, hm⟩ cn (.inl ⟨rfl, by simp [mbR]; omega⟩)
                  · simp only; omega
                · simp only [↓sxD, ↓sxP0, ↓sxP3, ↓sxGd, sxP1, sxF, sxA, sxS, sxK, sxG, sxZ, sxH, sxU, encs, tys, sxN, sevalprocAttr, ne_eq, decide_true, decide_false]
                  repeat ((with_reducible refine Vc.go ?_ fun _ => ?_); (focus (first | omega | (simp only [InK]; omega) | (simp [InK]; done) | (simp [InK]; omega))); simp only [↓sxD, ↓sxP0, ↓sxP3, ↓sxGd, sxP1, sxF, sxA, sxS, sxK, sxG, sxZ, sxH, sxU, encs, tys, sxN, sevalprocAttr, ne_eq, decide_true, decide_false])
                  refine BrW.dec (fun c4 => ?_) (fun c4 => ?_)
                  · simp only [↓sxD, ↓sxP0, ↓sxP3, ↓sxGd, sxP1, sxF, sxA, sxS, sxK, sxG, sxZ, sxH, sxU, encs, tys, sxN, sevalprocAttr, ne_eq, decide_true, decide_false]
                    repeat ((with_reducible refine Vc.go ?_ fun _ => ?_); (focus (first | omega | (simp only [InK]; omega) | (simp [InK]; done) | (simp [InK]; omega))); simp only [↓sxD, ↓sxP0, ↓sxP3, ↓sxGd, sxP1, sxF, sxA, sxS, sxK, sxG, sxZ, sxH, sxU, encs, tys, sxN, sevalprocAttr, ne_eq, decide_true, decide_false])
                    refine ⟨(1, 1), StLe.auto (by simp only [sxS, sxL, sxF, sxG, sxH, sxU, encs, sxN, sevalprocAttr, ne_eq, decide_true, decide_false] <;> (try simp) <;> (try omega)), ?_, ?_⟩
                    · exact Rin.step (o.a, o.b) rfl ⟨hj, hn, hm⟩ cn (.inl ⟨rfl, by simp [mbR]; omega⟩)
                    · simp only; omega
                  · simp only [↓sxD, ↓sxP0, ↓sxP3, ↓sxGd, sxP1, sxF, sxA, sxS, sxK, sxG, sxZ, sxH, sxU, encs, tys, sxN, sevalprocAttr, ne_eq, decide_true, decide_false]
                    repeat ((with_reducible refine Vc.go ?_ fun _ => ?_); (focus (first | omega | (simp only [InK]; omega) | (simp [InK]; done) | (simp [InK]; omega))); simp only [↓sxD, ↓sxP0, ↓sxP3, ↓sxGd, sxP1, sxF, sxA, sxS, sxK, sxG, sxZ, sxH, sxU, encs, tys, sxN, sevalprocAttr, ne_eq, decide_true, decide_false])
                    refine ⟨(1, a3), StLe.auto (by simp only [sxS, sxL, sxF, sxG, sxH, sxU, encs, sxN, sevalprocAttr, ne_eq, decide_true, decide_false] <;> (try simp) <;> (try omega)), ?_, ?_⟩
                    · exact Rin.step (o.a, o.b) rfl ⟨hj, hn, hm⟩ cn (.inr ⟨rfl, by simp [mbR]; omega⟩)
                    · simp only; omega
          · simp only [↓sxD, ↓sxP0, ↓sxP3, ↓sxGd, sxP1, sxF, sxA, sxS, sxK, sxG, sxZ, sxH, sxU, encs, tys, sxN, sevalprocAttr, ne_eq, decide_true, decide_false]
            refine ArrIx.go (by simp) ?_
            simp only [↓sxD, ↓sxP0, ↓sxP3, ↓sxGd, sxP1, sxF, sxA, sxS, sxK, sxG, sxZ, sxH, sxU, encs, tys, sxN, sevalprocAttr, ne_eq, decide_true, decide_false]
            repeat ((with_reducible refine Vc.go ?_ fun _ => ?_); (focus (first | omega | (simp only [InK]; omega) | (simp [InK]; done) | (simp [InK]; omega))); simp only [↓sxD, ↓sxP0, ↓sxP3, ↓sxGd, sxP1, sxF, sxA, sxS, sxK, sxG, sxZ, sxH, sxU, encs, tys, sxN, sevalprocAttr, ne_eq, decide_true, decide_false])
            refine BrW.dec (fun c1 => ?_) (fun c1 => ?_)
            · simp only [↓sxD, ↓sxP0, ↓sxP3, ↓sxGd, sxP1, sxF, sxA, sxS, sxK, sxG, sxZ, sxH, sxU, encs, tys, sxN, sevalprocAttr, ne_eq, decide_true, decide_false]
              rw [hnp (x := (o.c, o.d)) (by simp [rgs]) (by simp [noR]; omega)]
              exact EndW.fn (by simp only [sxL, sxG, sxH, sxU, encs, kpLL_map, sxN, sevalprocAttr, ne_eq, decide_true, decide_false] <;> (try simp) <;> (try omega)) (by simp only [sxL, sxG, sxH, sxU, encs, kpLL_map, sxN, sevalprocAttr, ne_eq, decide_true, decide_false] <;> (try simp) <;> (try omega))
            · simp only [↓sxD, ↓sxP0, ↓sxP3, ↓sxGd, sxP1, sxF, sxA, sxS, sxK, sxG, sxZ, sxH, sxU, encs, tys, sxN, sevalprocAttr, ne_eq, decide_true, decide_false]
              repeat ((with_reducible refine Vc.go ?_ fun _ => ?_); (focus (first | omega | (simp only [InK]; omega) | (simp [InK]; done) | (simp [InK]; omega))); simp only [↓sxD, ↓sxP0, ↓sxP3, ↓sxGd, sxP1, sxF, sxA, sxS, sxK, sxG, sxZ, sxH, sxU, encs, tys, sxN, sevalprocAttr, ne_eq, decide_true, decide_false])
              refine BrW.dec (fun c2 => ?_) (fun c2 => ?_)
              · simp only [↓sxD, ↓sxP0, ↓sxP3, ↓sxGd, sxP1, sxF, sxA, sxS, sxK, sxG, sxZ, sxH, sxU, encs, tys, sxN, sevalprocAttr, ne_eq, decide_true, decide_false]
                rw [hnp (x := (o.c, o.d)) (by simp [rgs]) (by simp [noR]; omega)]
                exact EndW.fn (by simp only [sxL, sxG, sxH, sxU, encs, kpLL_map, sxN, sevalprocAttr, ne_eq, decide_true, decide_false] <;> (try simp) <;> (try omega)) (by simp only [sxL, sxG, sxH, sxU, encs, kpLL_map, sxN, sevalprocAttr, ne_eq, decide_true, decide_false] <;> (try simp) <;> (try omega))
              · simp only [↓sxD, ↓sxP0, ↓sxP3, ↓sxGd, sxP1, sxF, sxA, sxS, sxK, sxG, sxZ, sxH, sxU, encs, tys, sxN, sevalprocAttr, ne_eq, decide_true, decide_false]
                have cn : noR m (o.c, o.d) = false := by simp [noR]; omega
                repeat ((with_reducible refine Vc.go ?_ fun _ => ?_); (focus (first | omega | (simp only [InK]; omega) | (simp [InK]; done) | (simp [InK]; omega))); simp only [↓sxD, ↓sxP0, ↓sxP3, ↓sxGd, sxP1, sxF, sxA, sxS, sxK, sxG, sxZ, sxH, sxU, encs, tys, sxN, sevalprocAttr, ne_eq, decide_true, decide_false])
                refine BrW.dec (fun c3 => ?_) (fun c3 => ?_)
                · simp only [↓sxD, ↓sxP0, ↓sxP3, ↓sxGd, sxP1, sxF, sxA, sxS, sxK, sxG, sxZ, sxH, sxU, encs, tys, sxN, sevalprocAttr, ne_eq, decide_true, decide_false]
                  repeat ((with_reducible refine Vc.go ?_ fun _ => ?_); (focus (first | omega | (simp only [InK]; omega) | (simp [InK]; done) | (simp [InK]; omega))); simp only [↓sxD, ↓sxP0, ↓sxP3, ↓sxGd, sxP1, sxF, sxA, sxS, sxK, sxG, sxZ, sxH, sxU, encs, tys, sxN, sevalprocAttr, ne_eq, decide_true, decide_false])
                  refine ⟨(2, 1), StLe.auto (by simp only [sxS, sxL, sxF, sxG, sxH, sxU, encs, sxN, sevalprocAttr, ne_eq, decide_true, decide_false] <;> (try simp) <;> (try omega)), ?_, ?_⟩
                  · exact Rin.step (o.c, o.d) rfl ⟨hj, hn, hm⟩ cn (.inl ⟨rfl, by simp [mbR]; omega⟩)
                  · simp only; omega
                · simp only [↓sxD, ↓sxP0, ↓sxP3, ↓sxGd, sxP1, sxF, sxA, sxS, sxK, sxG, sxZ, sxH, sxU, encs, tys, sxN, sevalprocAttr, ne_eq, decide_true, decide_false]
                  repeat ((with_reducible refine Vc.go ?_ fun _ => ?_); (focus (first | omega | (simp only [InK]; omega) | (simp [InK]; done) | (simp [InK]; omega))); simp only [↓sxD, ↓sxP0, ↓sxP3, ↓sxGd, sxP1, sxF, sxA, sxS, sxK, sxG, sxZ, sxH, sxU, encs, tys, sxN, sevalprocAttr, ne_eq, decide_true, decide_false])
                  refine BrW.dec (fun c4 => ?_) (fun c4 => ?_)
                  · simp only [↓sxD, ↓sxP0, ↓sxP3, ↓sxGd, sxP1, sxF, sxA, sxS, sxK, sxG, sxZ, sxH, sxU, encs, tys, sxN, sevalprocAttr, ne_eq, decide_true, decide_false]
                    repeat ((with_reducible refine Vc.go ?_ fun _ => ?_); (focus (first | omega | (simp only [InK]; omega) | (simp [InK]; done) | (simp [InK]; omega))); simp only [↓sxD, ↓sxP0, ↓sxP3, ↓sxGd, sxP1, sxF, sxA, sxS, sxK, sxG, sxZ, sxH, sxU, encs, tys, sxN, sevalprocAttr, ne_eq, decide_true, decide_false])
                    refine ⟨(2, 1), StLe.auto (by simp only [sxS, sxL, sxF, sxG, sxH, sxU, encs, sxN, sevalprocAttr, ne_eq, decide_true, decide_false] <;> (try simp) <;> (try omega)), ?_, ?_⟩
                    · exact Rin.step (o.c, o.d) rfl ⟨hj, hn, hm⟩ cn (.inl ⟨rfl, by simp [mbR]; omega⟩)
                    · simp only; omega
                  · simp only [↓sxD, ↓sxP0, ↓sxP3, ↓sxGd, sxP1, sxF, sxA, sxS, sxK, sxG, sxZ, sxH, sxU, encs, tys, sxN, sevalprocAttr, ne_eq, decide_true, decide_false]
                    repeat ((with_reducible refine Vc.go ?_ fun _ => ?_); (focus (first | omega | (simp only [InK]; omega) | (simp [InK]; done) | (simp [InK]; omega))); simp only [↓sxD, ↓sxP0, ↓sxP3, ↓sxGd, sxP1, sxF, sxA, sxS, sxK, sxG, sxZ, sxH, sxU, encs, tys, sxN, sevalprocAttr, ne_eq, decide_true, decide_false])
                    refine ⟨(2, a3), StLe.auto (by simp only [sxS, sxL, sxF, sxG, sxH, sxU, encs, sxN, sevalprocAttr, ne_eq, decide_true, decide_false] <;> (try simp) <;> (try omega)), ?_, ?_⟩
                    · exact Rin.step (o.c, o.d) rfl ⟨hj, hn, hm⟩ cn (.inr ⟨rfl, by simp [mbR]; omega⟩)
                    · simp only; omega
          · simp only [↓sxD, ↓sxP0, ↓sxP3, ↓sxGd, sxP1, sxF, sxA, sxS, sxK, sxG, sxZ, sxH, sxU, encs, tys, sxN, sevalprocAttr, ne_eq, decide_true, decide_false]
            refine ArrIx.go (by simp) ?_
            simp only [↓sxD, ↓sxP0, ↓sxP3, ↓sxGd, sxP1, sxF, sxA, sxS, sxK, sxG, sxZ, sxH, sxU, encs, tys, sxN, sevalprocAttr, ne_eq, decide_true, decide_false]
            repeat ((with_reducible refine Vc.go ?_ fun _ => ?_); (focus (first | omega | (simp only [InK]; omega) | (simp [InK]; done) | (simp [InK]; omega))); simp only [↓sxD, ↓sxP0, ↓sxP3, ↓sxGd, sxP1, sxF, sxA, sxS, sxK, sxG, sxZ, sxH, sxU, encs, tys, sxN, sevalprocAttr, ne_eq, decide_true, decide_false])
            refine BrW.dec (fun c1 => ?_) (fun c1 => ?_)
            · simp only [↓sxD, ↓sxP0, ↓sxP3, ↓sxGd, sxP1, sxF, sxA, sxS, sxK, sxG, sxZ, sxH, sxU, encs, tys, sxN, sevalprocAttr, ne_eq, decide_true, decide_false]
              rw [hnp (x := (o.e, o.f)) (by simp [rgs]) (by simp [noR]; omega)]
              exact EndW.fn (by simp only [sxL, sxG, sxH, sxU, encs, kpLL_map, sxN, sevalprocAttr, ne_eq, decide_true, decide_false] <;> (try simp) <;> (try omega)) (by simp only [sxL, sxG, sxH, sxU, encs, kpLL_map, sxN, sevalprocAttr, ne_eq, decide_true, decide_false] <;> (try simp) <;> (try omega))
            · simp only [↓sxD, ↓sxP0, ↓sxP3, ↓sxGd, sxP1, sxF, sxA, sxS, sxK, sxG, sxZ, sxH, sxU, encs, tys, sxN, sevalprocAttr, ne_eq, decide_true, decide_false]
              repeat ((with_reducible refine Vc.go ?_ fun _ => ?_); (focus (first | omega | (simp only [InK]; omega) | (simp [InK]; done) | (simp [InK]; omega))); simp only [↓sxD, ↓sxP0, ↓sxP3, ↓sxGd, sxP1, sxF, sxA, sxS, sxK, sxG, sxZ, sxH, sxU, encs, tys, sxN, sevalprocAttr, ne_eq, decide_true, decide_false])
              refine BrW.dec (fun c2 => ?_) (fun c2 => ?_)
              · simp only [↓sxD, ↓sxP0, ↓sxP3, ↓sxGd, sxP1, sxF, sxA, sxS, sxK, sxG, sxZ, sxH, sxU, encs, tys, sxN, sevalprocAttr, ne_eq, decide_true, decide_false]
                rw [hnp (x := (o.e, o.f)) (by simp [rgs]) (by simp [noR]; omega)]
                exact EndW.fn (by simp only [sxL, sxG, sxH, sxU, encs, kpLL_map, sxN, sevalprocAttr, ne_eq, decide_true, decide_false] <;> (try simp) <;> (try omega)) (by simp only [sxL, sxG, sxH, sxU, encs, kpLL_map, sxN, sevalprocAttr, ne_eq, decide_true, decide_false] <;> (try simp) <;> (try omega))
              · simp only [↓sxD, ↓sxP0, ↓sxP3, ↓sxGd, sxP1, sxF, sxA, sxS, sxK, sxG, sxZ, sxH, sxU, encs, tys, sxN, sevalprocAttr, ne_eq, decide_true, decide_false]
                have cn : noR m (o.e, o.f) = false := by simp [noR]; omega
                repeat ((with_reducible refine Vc.go ?_ fun _ => ?_); (focus (first | omega | (simp only [InK]; omega) | (simp [InK]; done) | (simp [InK]; omega))); simp only [↓sxD, ↓sxP0, ↓sxP3, ↓sxGd, sxP1, sxF, sxA, sxS, sxK, sxG, sxZ, sxH, sxU, encs, tys, sxN, sevalprocAttr, ne_eq, decide_true, decide_false])
                refine BrW.dec (fun c3 => ?_) (fun c3 => ?_)
                · simp only [↓sxD, ↓sxP0, ↓sxP3, ↓sxGd, sxP1, sxF, sxA, sxS, sxK, sxG, sxZ, sxH, sxU, encs, tys, sxN, sevalprocAttr, ne_eq, decide_true, decide_false]
                  repeat ((with_reducible refine Vc.go ?_ fun _ => ?_); (focus (first | omega | (simp only [InK]; omega) | (simp [InK]; done) | (simp [InK]; omega))); simp only [↓sxD, ↓sxP0, ↓sxP3, ↓sxGd, sxP1, sxF, sxA, sxS, sxK, sxG, sxZ, sxH, sxU, encs, tys, sxN, sevalprocAttr, ne_eq, decide_true, decide_false])
                  refine ⟨(3, 1), StLe.auto (by simp only [sxS, sxL, sxF, sxG, sxH, sxU, encs, sxN, sevalprocAttr, ne_eq, decide_true, decide_false] <;> (try simp) <;> (try omega)), ?_, ?_⟩
                  · exact Rin.step (o.e, o.f) rfl ⟨hj, hn, hm⟩ cn (.inl ⟨rfl, by simp [mbR]; omega⟩)
                  · simp only; omega
                · simp only [↓sxD, ↓sxP0, ↓sxP3, ↓sxGd, sxP1, sxF, sxA, sxS, sxK, sxG, sxZ, sxH, sxU, encs, tys, sxN, sevalprocAttr, ne_eq, decide_true, decide_false]
                  repeat ((with_reducible refine Vc.go ?_ fun _ => ?_); (focus (first | omega | (simp only [InK]; omega) | (simp [InK]; done) | (simp [InK]; omega))); simp only [↓sxD, ↓sxP0, ↓sxP3, ↓sxGd, sxP1, sxF, sxA, sxS, sxK, sxG, sxZ, sxH, sxU, encs, tys, sxN, sevalprocAttr, ne_eq, decide_true, decide_false])
                  refine BrW.dec (fun c4 => ?_) (fun c4 => ?_)
                  · simp only [↓sxD, ↓sxP0, ↓sxP3, ↓sxGd, sxP1, sxF, sxA, sxS, sxK, sxG, sxZ, sxH, sxU, encs, tys, sxN, sevalprocAttr, ne_eq, decide_true, decide_false]
                    repeat ((with_reducible refine Vc.go ?_ fun _ => ?_); (focus (first | omega | (simp only [InK]; omega) | (simp [InK]; done) | (simp [InK]; omega))); simp only [↓sxD, ↓sxP0, ↓sxP3, ↓sxGd, sxP1, sxF, sxA, sxS, sxK, sxG, sxZ, sxH, sxU, encs, tys, sxN, sevalprocAttr, ne_eq, decide_true, decide_false])
                    refine ⟨(3, 1), StLe.auto (by simp only [sxS, sxL, sxF, sxG, sxH, sxU, encs, sxN, sevalprocAttr, ne_eq, decide_true, decide_false] <;> (try simp) <;> (try omega)), ?_, ?_⟩
                    · exact Rin.step (o.e, o.f) rfl ⟨hj, hn, hm⟩ cn (.inl ⟨rfl, by simp [mbR]; omega⟩)
                    · simp only; omega
                  · simp only [↓sxD, ↓sxP0, ↓sxP3, ↓sxGd, sxP1, sxF, sxA, sxS, sxK, sxG, sxZ, sxH, sxU, encs, tys, sxN, sevalprocAttr, ne_eq, decide_true, decide_false]
                    repeat ((with_reducible refine Vc.go ?_ fun _ => ?_); (focus (first | omega | (simp only [InK]; omega) | (simp [InK]; done) | (simp [InK]; omega))); simp only [↓sxD, ↓sxP0, ↓sxP3, ↓sxGd, sxP1, sxF, sxA, sxS, sxK, sxG, sxZ, sxH, sxU, encs, tys, sxN, sevalprocAttr, ne_eq, decide_true, decide_false])
                    refine ⟨(3, a3), StLe.auto (by simp only [sxS, sxL, sxF, sxG, sxH, sxU, encs, sxN, sevalprocAttr, ne_eq, decide_true, decide_false] <;> (try simp) <;> (try omega)), ?_, ?_⟩
                    · exact Rin.step (o.e, o.f) rfl ⟨hj, hn, hm⟩ cn (.inr ⟨rfl, by simp [mbR]; omega⟩)
                    · simp only; omega
          · simp only [↓sxD, ↓sxP0, ↓sxP3, ↓sxGd, sxP1, sxF, sxA, sxS, sxK, sxG, sxZ, sxH, sxU, encs, tys, sxN, sevalprocAttr, ne_eq, decide_true, decide_false]
            have hadd := Rin.add (p := pinAt l i) (q := pinAt l k) (a0 := a2) (a := a3) (by rw [ho]; exact ⟨hj, hn, hm⟩)
            repeat ((with_reducible refine Vc.go ?_ fun _ => ?_); (focus (first | omega | (simp only [InK]; omega) | (simp [InK]; done) | (simp [InK]; omega))); simp only [↓sxD, ↓sxP0, ↓sxP3, ↓sxGd, sxP1, sxF, sxA, sxS, sxK, sxG, sxZ, sxH, sxU, encs, tys, sxN, sevalprocAttr, ne_eq, decide_true, decide_false])
            refine ⟨(k + 1, a3), StLe.auto (by simp only [sxS, sxL, sxF, sxG, sxH, sxU, encs, sxN, sevalprocAttr, ne_eq, decide_true, decide_false] <;> (try simp) <;> (try omega)), ?_, ?_⟩
            · exact ⟨hlt2, hr2.add (fun a b => by simp only; omega) hadd.1 hadd.2⟩
            · simp only; omega
        · simp only [↓sxD, ↓sxP0, ↓sxP3, ↓sxGd, sxP1, sxF, sxA, sxS, sxK, sxG, sxZ, sxH, sxU, encs, tys, sxN, sevalprocAttr, ne_eq, decide_true, decide_false]
          have hki : k = i := by simp at hlt2; omega
          subst hki
          repeat ((with_reducible refine Vc.go ?_ fun _ => ?_); (focus (first | omega | (simp only [InK]; omega) | (simp [InK]; done) | (simp [InK]; omega))); simp only [↓sxD, ↓sxP0, ↓sxP3, ↓sxGd, sxP1, sxF, sxA, sxS, sxK, sxG, sxZ, sxH, sxU, encs, tys, sxN, sevalprocAttr, ne_eq, decide_true, decide_false])
          refine ⟨(k + 1, a2), StLe.auto (by simp only [sxS, sxL, sxF, sxG, sxH, sxU, encs, sxN, sevalprocAttr, ne_eq, decide_true, decide_false] <;> (try simp) <;> (try omega)), ?_, ?_⟩
          · exact ⟨hlt, hr2.congr fun a b => by simp only; omega⟩
          · simp only; omega
      · simp only [↓sxD, ↓sxP0, ↓sxP3, ↓sxGd, sxP1, sxF, sxA, sxS, sxK, sxG, sxZ, sxH, sxU, encs, tys, sxN, sevalprocAttr, ne_eq, decide_true, decide_false]
        have hil : i = l.length := by omega
        subst hil
        rw [hr1.done fun a b => by simp only]
        exact EndW.fn (by simp only [sxL, sxG, sxH, sxU, encs, kpLL_map, sxN, sevalprocAttr, ne_eq, decide_true, decide_false] <;> (try simp) <;> (try omega)) (by simp only [sxL, sxG, sxH, sxU, encs, kpLL_map, sxN, sevalprocAttr, ne_eq, decide_true, decide_false] <;> (try simp) <;> (try omega))
    · have hw : ¬ (0 ≤ m ∧ m ≤ 1000000) := by simpa using hw
      simp only [↓sxD, ↓sxP0, ↓sxP3, ↓sxGd, sxP1, sxF, sxA, sxS, sxK, sxG, sxZ, sxH, sxU, encs, tys, sxN, sevalprocAttr, ne_eq, decide_true, decide_false]
      rw [show regP l m = (0, 2) by rw [regP, if_pos h1, if_neg hw]]
      exact EndW.fn (by simp only [sxL, sxG, sxH, sxU, encs, kpLL_map, sxN, sevalprocAttr, ne_eq, decide_true, decide_false] <;> (try simp) <;> (try omega)) (by simp only [sxL, sxG, sxH, sxU, encs, kpLL_map, sxN, sevalprocAttr, ne_eq, decide_true, decide_false] <;> (try simp) <;> (try omega))
end Go.Proofs.Ytaagelngbbkllaa
