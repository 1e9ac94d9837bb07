/-
  Chapter 6, plain laws of piles: seen from the other end and folded the other way; each place once.
-/
import Derived.Test.YtgiegokdcmkfeaaGreatDoorVGD
namespace Go.Proofs.YtgiegokdcmkfeaaGreatDoor
open Go Go.Vx
set_option linter.unusedSimpArgs false
/-- where a leaf was. -/
def pos (x : Leaf) : Int × Int := (x.col, x.row)
def posL (ls : List (List Leaf)) : List (Int × Int) := ls.flatMap fun l => l.map pos
end Go.Proofs.YtgiegokdcmkfeaaGreatDoor
