/-
  Chapter 6, plain laws of piles: a pile of right folds has each cell once.
-/
import Derived.Test.YteajjcbinnjgaaaGreatDoorVP6Perm
import Derived.Test.YteajjcbinnjgaaaGreatDoorVGF
namespace Go.Proofs.YteajjcbinnjgaaaGreatDoor
open Go Go.Vx
set_option linter.unusedSimpArgs false
def atI (c : Int) (x : Leaf) : Int := x.row * c + x.col
def cellsI (n : Nat) : List Int := (List.range n).map fun i : Nat => (i : Int)
end Go.Proofs.YteajjcbinnjgaaaGreatDoor
