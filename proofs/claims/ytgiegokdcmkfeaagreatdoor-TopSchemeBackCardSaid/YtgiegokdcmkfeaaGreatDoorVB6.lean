/-
  Chapter 6: data of the program as cells.
-/
import Derived.Test.YtgiegokdcmkfeaaGreatDoorVT
import Derived.Test.YtgiegokdcmkfeaaGreatDoorVSx
namespace Go.Proofs.YtgiegokdcmkfeaaGreatDoor
open Go Go.Vx
set_option linter.unusedSimpArgs false
theorem sxE : type_of% (And.intro sx1 (And.intro tys sxR)) := And.intro sx1 (And.intro tys sxR)
theorem mixed : Tryz.prog.follows .mixedOrders = true := rfl
def eI (n : Int) : List D := [.v (.int .i64 n)]
/-- A leaf of a pile. -/
structure Leaf where
  col : Int
  row : Int
  over : Int
  round : Int
  deriving DecidableEq
def eL (l : Leaf) : List D := [.v (.int .i64 l.col), .v (.int .i64 l.row), .v (.int .i64 l.over), .v (.int .i64 l.round)]
/-- A fold. -/
structure Fold where
  kind : Int
  count : Int
  deriving DecidableEq
def eF (f : Fold) : List D := [.v (.int .i64 f.kind), .v (.int .i64 f.count)]
/-- A stack of leaves, as one cell. -/
def eK (l : List Leaf) : List D := [.sl true 4 (l.map eL)]
/-- A cell of a scheme. -/
structure Cell where
  front : Int
  fturn : Int
  back : Int
  bturn : Int
  deriving DecidableEq
def eC (c : Cell) : List D := [.v (.int .i64 c.front), .v (.int .i64 c.fturn), .v (.int .i64 c.back), .v (.int .i64 c.bturn)]
/-- A page. -/
structure Page where
  page : Int
  turn : Int
  deriving DecidableEq
def eP (p : Page) : List D := [.v (.int .i64 p.page), .v (.int .i64 p.turn)]
/-- A range. -/
structure Rng where
  lo : Int
  hi : Int
  deriving DecidableEq
def eR (p : Rng) : List D := [.v (.int .i64 p.lo), .v (.int .i64 p.hi)]
theorem eC_inj {p q : Cell} : ([p.front, p.fturn, p.back, p.bturn] = [q.front, q.fturn, q.back, q.bturn]) = (p = q) := by
  cases p; cases q; simp
theorem eF_inj {p q : Fold} : ([p.kind, p.count] = [q.kind, q.count]) = (p = q) := by
  cases p; cases q; simp
theorem encs : (∀ n, eI n = [.v (.int .i64 n)]) ∧ (∀ l, eL l = [.v (.int .i64 l.col), .v (.int .i64 l.row), .v (.int .i64 l.over), .v (.int .i64 l.round)]) ∧ (∀ f, eF f = [.v (.int .i64 f.kind), .v (.int .i64 f.count)]) ∧ (∀ l, eK l = [.sl true 4 (l.map eL)]) ∧
    (∀ c, eC c = [.v (.int .i64 c.front), .v (.int .i64 c.fturn), .v (.int .i64 c.back), .v (.int .i64 c.bturn)]) ∧ (∀ p, eP p = [.v (.int .i64 p.page), .v (.int .i64 p.turn)]) ∧ (∀ p, eR p = [.v (.int .i64 p.lo), .v (.int .i64 p.hi)]) := ⟨fun _ => rfl, fun _ => rfl, fun _ => rfl, fun _ => rfl, fun _ => rfl, fun _ => rfl, fun _ => rfl⟩
theorem take_eq_succ {α : Type} {l m : List α} {k : Nat} (h1 : k < l.length) (h2 : k < m.length) (h : l.take k = m.take k) (e : l[k] = m[k]) : l.take (k + 1) = m.take (k + 1) := by
  rw [List.take_succ_eq_append_getElem h1, List.take_succ_eq_append_getElem h2, h, e]
/-- Places row by row. -/
def gridRow {α : Type} (cols : Nat) (f : Nat → Nat → α) (r : Nat) : List α := (List.range cols).map fun c => f c r
def grid {α : Type} (cols rows : Nat) (f : Nat → Nat → α) : List α := (List.range rows).flatMap (gridRow cols f)
theorem gridRow_succ {α : Type} (c : Nat) (f : Nat → Nat → α) (r : Nat) : gridRow (c + 1) f r = gridRow c f r ++ [f c r] := by simp [gridRow, List.range_succ]
theorem grid_succ {α : Type} (cols r : Nat) (f : Nat → Nat → α) : grid cols (r + 1) f = grid cols r f ++ gridRow cols f r := by simp [grid, List.range_succ]
theorem gridRow_length {α : Type} (c : Nat) (f : Nat → Nat → α) (r : Nat) : (gridRow c f r).length = c := by simp [gridRow]
theorem grid_length {α : Type} (cols : Nat) (f : Nat → Nat → α) : ∀ r, (grid cols r f).length = r * cols
  | 0 => by simp [grid]
  | r + 1 => by rw [grid_succ, List.length_append, grid_length, gridRow_length, Nat.succ_mul]
@[simp] theorem grid_zero {α : Type} (cols : Nat) (f : Nat → Nat → α) : grid cols 0 f = [] := rfl
@[simp] theorem gridRow_zero {α : Type} (f : Nat → Nat → α) (r : Nat) : gridRow 0 f r = [] := rfl
end Go.Proofs.YtgiegokdcmkfeaaGreatDoor
