/-
  Calls that turn an own row: what they hand back is own again.
-/
import Derived.Test.YtgiegokdcmkfeaaGreatDoorVAli
import Derived.Deep.Upon
import Derived.Shelf.Spec.SlicesInsertGrow
namespace Go.Vx
open Go Go.RowKit
set_option linter.unusedSimpArgs false
set_option linter.unusedVariables false
/-- of the world nothing but the row is touched. -/
structure Turned (w w' : World) (v v' : Value) : Prop where
  os : w'.os = w.os
  tape : w'.tape = w.tape
  output : w'.output = w.output
  size : w.heap.size ≤ w'.heap.size
  keep : ∀ b, b < w.heap.size → ob v ≠ some b → w'.heap[b]? = w.heap[b]?
  blk : ∀ b, ob v' = some b → ob v = some b ∨ w.heap.size ≤ b
/-- a function of an own row, a value and another own row that it only reads. -/
def Turn2 (P : Program) (f : FuncId) (e s : Nat) (els : List (List D)) (x : Value) (e2 s2 : Nat) (els2 els' : List (List D)) : Prop :=
  Ent P f ∧ ∀ (μ : Mu) (w : World) (base : Nat) (v u : Value), base ≤ w.heap.size → RowOk μ base w v e s els → RowOk μ base w u e2 s2 els2 → (∀ b, ob v = some b → ob u ≠ some b) →
    Calls P f #[v, x, u] w fun en w' => ∃ v', en = .returned v' ∧ RowOk μ base w' v' e s els' ∧ (∃ a n c, v' = .slice a n c) ∧ Turned w w' v v'
/-! cells that are overwritten -/
def updV (l : List Value) (o : Nat) (vs : List Value) : List Value := l.take o ++ vs ++ l.drop (o + vs.length)
end Go.Vx
