/-
 Chapter 6, walks: the document's folds.
-/
import Derived.Test.YtgiegokdcmkfeaaGreatDoorVP6Perm
import Derived.Test.YtgiegokdcmkfeaaGreatDoorVGC
import Derived.Test.YtgiegokdcmkfeaaGreatDoorVP6Turns
set_option linter.unusedSimpArgs false
set_option linter.unusedVariables false
namespace Go.Proofs.YtgiegokdcmkfeaaGreatDoor
open Go Go.Vx
set_option maxRecDepth 20000
/-- the pile, and the number and the error of a wrong fold. -/
def runR (c r : Nat) (l : List Fold) : PileS × Int × Int :=
 match foldRun (flatP c r) 0 l with
 | (p, some (i, e)) => (p, i, e)
 | (p, none) => (p, 0, 0)
end Go.Proofs.YtgiegokdcmkfeaaGreatDoor
/-
 Chapter 6, walks: printed twice.
-/
namespace Go.Proofs.YtgiegokdcmkfeaaGreatDoor
open Go Go.Vx
set_option maxRecDepth 20000
def zP : Page := ⟨0, 0⟩
def pgOk (x : Page) : Bool := decide (1 ≤ x.page ∧ x.page ≤ 4000 ∧ 0 ≤ x.turn ∧ x.turn ≤ 1)
def twCell (t : Bool) (c r : Nat) (l : List Page) (k q : Nat) : Cell :=
 ⟨(l.getD (q * c + k) zP).page, (l.getD (q * c + k) zP).turn, if t then (l.getD ((r - 1 - q) * c + k) zP).page else (l.getD (q * c + (c - 1 - k)) zP).page,
  if t then 1 - (l.getD ((r - 1 - q) * c + k) zP).turn else (l.getD (q * c + (c - 1 - k)) zP).turn⟩
def twiceS (c r : Int) (l : List Page) (t : Bool) : Int × Int × List Cell × Int :=
 if sheetErr c r ≠ 0 then (0, 0, [], sheetErr c r) else if ¬ (l.length : Int) = c * r then (0, 0, [], 10) else if l.any (fun x => !pgOk x) = true then (0, 0, [], 2) else (c, r, grid c.toNat r.toNat (twCell t c.toNat r.toNat l), 0)
theorem sheet_ok {c r : Int} (h : sheetErr c r = 0) : 1 ≤ c ∧ c ≤ 8 ∧ 1 ≤ r ∧ r ≤ 8 := by
 unfold sheetErr at h
 by_cases h1 : 1 ≤ c ∧ c ≤ 8
 ·by_cases h2 : 1 ≤ r ∧ r ≤ 8
  ·omega
  ·simp [h1, h2] at h
 ·simp [h1] at h
end Go.Proofs.YtgiegokdcmkfeaaGreatDoor
/-
 Chapter 6, walks: printed twice (the document's answer).
-/
namespace Go.Proofs.YtgiegokdcmkfeaaGreatDoor
open Go Go.Vx
set_option maxRecDepth 20000
end Go.Proofs.YtgiegokdcmkfeaaGreatDoor
/-
 Chapter 6, walks: the law of sheets that are printed twice.
-/
namespace Go.Proofs.YtgiegokdcmkfeaaGreatDoor
open Go Go.Vx
set_option maxRecDepth 20000
def zC : Cell := ⟨0, 0, 0, 0⟩
def bkPage (c : Nat) (l : List Cell) (k q : Nat) : Page := ⟨(l.getD (q * c + (c - 1 - k)) zC).back, (l.getD (q * c + (c - 1 - k)) zC).bturn⟩
end Go.Proofs.YtgiegokdcmkfeaaGreatDoor
