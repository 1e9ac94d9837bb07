/-
 Chapter 6, walks: the document's piles folded left, and up.
-/
import Derived.Test.YtgiegokdcmkfeaaGreatDoorVGC
import Derived.Test.YtgiegokdcmkfeaaGreatDoorVP6Turns
set_option linter.unusedSimpArgs false
set_option linter.unusedVariables false
namespace Go.Proofs.YtgiegokdcmkfeaaGreatDoor
open Go Go.Vx
set_option maxRecDepth 20000
/-- places turned one by one. -/
def ovT (T : List Leaf → List Leaf) (M : List (List Leaf)) (k : Nat) : List (List Leaf) := (M.take k).map T ++ M.drop k
end Go.Proofs.YtgiegokdcmkfeaaGreatDoor

