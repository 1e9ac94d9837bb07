/-
  Chapter 6, plain laws of piles: a pile of right folds has each cell once.
-/
import Derived.Test.YtgiegokdcmkfeaaGreatDoorVP6Perm
import Derived.Test.YtgiegokdcmkfeaaGreatDoorVGE
namespace Go.Proofs.YtgiegokdcmkfeaaGreatDoor
open Go Go.Vx
set_option linter.unusedSimpArgs false
def atI (c : Int) (x : Leaf) : Int := x.row * c + x.col
def cellsI (n : Nat) : List Int := (List.range n).map fun i : Nat => (i : Int)
end Go.Proofs.YtgiegokdcmkfeaaGreatDoor
