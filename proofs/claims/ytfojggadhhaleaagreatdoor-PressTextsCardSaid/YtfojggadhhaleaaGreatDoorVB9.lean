/-
  Chapter 9: data of the program as cells.
-/
import Derived.Test.YtfojggadhhaleaaGreatDoorVT
import Derived.Test.YtfojggadhhaleaaGreatDoorVSx
namespace Go.Proofs.YtfojggadhhaleaaGreatDoor
open Go Go.Vx
set_option linter.unusedSimpArgs false
theorem sxE : type_of% (And.intro sx1 (And.intro tys sxR)) := And.intro sx1 (And.intro tys sxR)
theorem mixed : Tryz.prog.follows .mixedOrders = true := rfl
def eI (n : Int) : List D := [.v (.int .i64 n)]
def eS (s : ByteArray) : List D := [.v (.string s)]
/-- A row of a table, as one cell. -/
def eIL (l : List Int) : List D := [.sl true 1 (l.map eI)]
def eIB (b : Bool) (l : List Int) : List D := [.sl b 1 (l.map eI)]
/-- Colours. -/
structure Cols where
  minutes : List Int
  dry : List (List Int)
def cV (b1 b2 b3 : Bool) (c : Cols) : SV := .agg [.sl b1 1 (c.minutes.map eI), .sl b2 1 (c.dry.map (eIB b3))]
/-- A job. -/
structure Job where
  name : ByteArray
  ready : Int
  minutes : Int
  due : Int
  deriving DecidableEq
def eJ (j : Job) : List D := [.v (.string j.name), .v (.int .i64 j.ready), .v (.int .i64 j.minutes), .v (.int .i64 j.due)]
/-- A slice of a schedule. -/
structure Slot where
  job : Int
  start : Int
  minutes : Int
  deriving DecidableEq
def eT (t : Slot) : List D := [.v (.int .i64 t.job), .v (.int .i64 t.start), .v (.int .i64 t.minutes)]
/-- A node of a tree. -/
structure Node where
  kind : Int
  next : List Int
  deriving DecidableEq
def eN (x : Node) : List D := [.v (.int .i64 x.kind), .sl true 1 (x.next.map eI)]
/-- A pin. -/
structure Pn where
  a : Int
  b : Int
  c : Int
  d : Int
  e : Int
  f : Int
  deriving DecidableEq
def eP (p : Pn) : List D := [.v (.int .i64 p.a), .v (.int .i64 p.b), .v (.int .i64 p.c), .v (.int .i64 p.d), .v (.int .i64 p.e), .v (.int .i64 p.f)]
/-- A run. -/
structure Run where
  job : ByteArray
  day : Int
  wanted : Int
  given : Int
  cols : List ByteArray
  ready : Int
  hour : Int
def rV (b : Bool) (x : Run) : SV := .agg [.v (.string x.job), .v (.int .i64 x.day), .v (.int .i64 x.wanted), .v (.int .i64 x.given), .sl b 1 (x.cols.map eS), .v (.int .i64 x.ready), .v (.int .i64 x.hour)]
theorem eI_inj : Function.Injective eI := fun a b h => by simpa [eI] using h
theorem encs : (∀ b l, eIB b l = [.sl b 1 (l.map eI)]) ∧ (∀ b1 b2 b3 c, cV b1 b2 b3 c = .agg [.sl b1 1 (c.minutes.map eI), .sl b2 1 (c.dry.map (eIB b3))]) ∧ (∀ b x, rV b x = .agg [.v (.string x.job), .v (.int .i64 x.day), .v (.int .i64 x.wanted), .v (.int .i64 x.given), .sl b 1 (x.cols.map eS), .v (.int .i64 x.ready), .v (.int .i64 x.hour)]) ∧ (∀ n, eI n = [.v (.int .i64 n)]) ∧ (∀ n, eS n = [.v (.string n)]) ∧ (∀ l, eIL l = [.sl true 1 (l.map eI)]) ∧ (∀ j, eJ j = [.v (.string j.name), .v (.int .i64 j.ready), .v (.int .i64 j.minutes), .v (.int .i64 j.due)]) ∧
    (∀ t, eT t = [.v (.int .i64 t.job), .v (.int .i64 t.start), .v (.int .i64 t.minutes)]) ∧ (∀ x, eN x = [.v (.int .i64 x.kind), .sl true 1 (x.next.map eI)]) ∧
    (∀ p, eP p = [.v (.int .i64 p.a), .v (.int .i64 p.b), .v (.int .i64 p.c), .v (.int .i64 p.d), .v (.int .i64 p.e), .v (.int .i64 p.f)]) := ⟨fun _ _ => rfl, fun _ _ _ _ => rfl, fun _ _ => rfl, fun _ => rfl, fun _ => rfl, fun _ => rfl, fun _ => rfl, fun _ => rfl, fun _ => rfl, fun _ => rfl⟩
theorem take_eq_succ {α : Type} {l m : List α} {k : Nat} (h1 : k < l.length) (h2 : k < m.length) (h : l.take k = m.take k) (e : l[k] = m[k]) : l.take (k + 1) = m.take (k + 1) := by
  rw [List.take_succ_eq_append_getElem h1, List.take_succ_eq_append_getElem h2, h, e]

/-! ### names -/
def okB (c : UInt8) (k : Nat) : Bool := decide ((97 ≤ (c.toNat : Int) ∧ (c.toNat : Int) ≤ 122) ∨ (65 ≤ (c.toNat : Int) ∧ (c.toNat : Int) ≤ 90) ∨ (0 < k ∧ ((c.toNat : Int) = 45 ∨ (48 ≤ (c.toNat : Int) ∧ (c.toNat : Int) ≤ 57))))
def okTo (l : List UInt8) (k : Nat) : Prop := ∀ j c, j < k → l[j]? = some c → okB c j = true
def isNm (s : ByteArray) : Bool := decide (s.size ≠ 0) && decide (s.size ≤ 12) && s.data.toList.zipIdx.all fun p => okB p.1 p.2
theorem isNm_iff {s : ByteArray} : isNm s = true ↔ s.size ≠ 0 ∧ s.size ≤ 12 ∧ okTo s.data.toList s.size := by
  unfold isNm okTo
  rw [Bool.and_eq_true, Bool.and_eq_true, decide_eq_true_eq, decide_eq_true_eq, List.all_eq_true, and_assoc]
  refine and_congr_right fun _ => and_congr_right fun _ => ⟨fun h j c hj hc => h (c, j) ?_, fun h p hp => ?_⟩
  · rw [List.mem_zipIdx_iff_getElem?]; exact hc
  · rw [List.mem_zipIdx_iff_getElem?] at hp
    have h1 := (List.getElem?_eq_some_iff.1 hp).1
    have h2 : p.2 < s.size := by rw [Array.length_toList] at h1; exact h1
    exact h p.2 p.1 h2 hp
theorem okTo_zero (l : List UInt8) : okTo l 0 := fun _ _ h => absurd h (Nat.not_lt_zero _)
theorem okTo_succ {l : List UInt8} {k : Nat} (h : okTo l k) (hk : k < l.length) (hc : okB l[k] k = true) : okTo l (k + 1) := fun j c hj he => by
  by_cases e : j = k
  · subst e
    rw [List.getElem?_eq_getElem hk] at he
    cases he; exact hc
  · exact h j c (by omega) he
theorem size_zero {s : ByteArray} : (s = ⟨#[]⟩) ↔ s.size = 0 := by
  constructor
  · rintro rfl; rfl
  · intro h
    cases s with
    | mk d =>
      have : d.size = 0 := h
      congr
      exact Array.eq_empty_of_size_eq_zero this
end Go.Proofs.YtfojggadhhaleaaGreatDoor
