/-
  A quicker check of plans, by a table of what each operation looks at.
-/
import Derived.Test.YtmiibjncomgneaaVSx
namespace Go.Vx
open Go Go.RowKit
set_option linter.unusedSimpArgs false
/-- what an operation writes, what it looks at (or more), what it comes behind. -/
structure Pr where
  d : Option Nat
  lk : List Nat
  es : List Nat
def prOk1 (ops : Array Oper) (o : Oper) (x : Pr) : Bool :=
  (o.dst == x.d) && ((o.looksAt ops).all fun t => x.lk.contains t) && (((o.after.toList.filter fun e => Region.binds .any e).map fun e => e.on) == x.es)
def prOkL (ops : Array Oper) : List Oper → List Pr → Bool
  | [], [] => true
  | o :: os, x :: xs => prOk1 ops o x && prOkL ops os xs
  | _, _ => false
def apG (x y : Pr) : Bool :=
  (match x.d with
   | some d => !y.lk.contains d && y.d != some d
   | none => true) &&
  (match y.d with
   | some d => !x.lk.contains d
   | none => true)
def freeG (x : Pr) (i : Nat) : Nat → List Pr → List Bool → Bool
  | _, [], _ => true
  | j, y :: ys, l :: ls => (j == i || l || y.es.contains i || apG x y) && freeG x i (j + 1) ys ls
  | _, _ :: _, [] => false
def stepG (pre : List Pr) (ls : List Bool) (i : Nat) : Bool :=
  match pre[i]? with
  | some x => (x.es.all fun e => ls.getD e false) && !ls.getD i true && freeG x i 0 pre ls
  | none => false
def keepG (ops : Array Oper) (listed : Array Bool) (i : Nat) (keep : List Nat) : Bool :=
  (List.range ops.size).all fun k => keep.contains k || !listed.getD k false || !opIs isL ops[k]? || befB ops ops.size k i
def planG (ops : Array Oper) (pre : List Pr) : Nat → List Bool → Plan → Bool
  | _, ls, .done => (Region.ready .any ops ls.toArray).isEmpty
  | n + 1, ls, .q i p => stepG pre ls i && opIs isQ ops[i]? && planG ops pre n (ls.set i true) p
  | n + 1, ls, .e i keep p => (Region.ready .any ops ls.toArray == [i]) && keepG ops ls.toArray i keep && planG ops pre n (ls.set i true) p
  | n, ls, .z _ p => planG ops pre n ls p
  | _, _, _ => false
end Go.Vx
