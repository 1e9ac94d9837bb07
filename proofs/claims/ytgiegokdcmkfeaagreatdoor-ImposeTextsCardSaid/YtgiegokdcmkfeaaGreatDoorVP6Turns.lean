/-
  Chapter 6, plain laws of piles: turning twice changes nothing; folds from the other side, with all turned round, are the same folds.
-/
import Derived.Test.YtgiegokdcmkfeaaGreatDoorVGC
namespace Go.Proofs.YtgiegokdcmkfeaaGreatDoor
open Go Go.Vx
set_option linter.unusedSimpArgs false
/-- a fold from the other side. -/
def swapK (x : Fold) : Fold := ⟨if x.kind = 1 then 2 else if x.kind = 2 then 1 else if x.kind = 3 then 4 else if x.kind = 4 then 3 else x.kind, x.count⟩
def rndP (p : PileS) : PileS := ⟨p.cols, p.rows, roundG p.cols p.rows p.ls⟩
end Go.Proofs.YtgiegokdcmkfeaaGreatDoor
