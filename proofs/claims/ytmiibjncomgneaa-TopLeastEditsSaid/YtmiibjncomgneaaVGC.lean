/-
 Chapter 8, walks: two marks in the other order, the first one breaks.
-/
import Derived.Test.YtmiibjncomgneaaVGB
namespace Go.Proofs.Ytmiibjncomgneaa
open Go Go.Vx
set_option linter.unusedSimpArgs false
set_option linter.unusedVariables false
set_option maxRecDepth 20000
def befP (a b : Mk) : Option (Mk × Mk) :=
 if b.mark = 6 then (if b.part = a.part - 1 then none else some ({ a with part := a.part + shM b }, b)) else some ({ a with part := a.part + shM b }, b)
def brokenP (a b : Mk) : Option (Mk × Mk) :=
 if b.part < a.part then befP a b else if a.part + 1 < b.part then some (a, { b with part := b.part - 1 }) else if ptsB b = true then none
 else if b.part = a.part then (if owB b = true then some ({ a with word := a.word + lenM b }, b) else some (a, b)) else if owB b = true then some (a, { b with part := b.part - 1, word := b.word + a.word }) else none
def joinedP (a b : Mk) : Option (Mk × Mk) :=
 if b.part < a.part then befP a b else if a.part < b.part then some (a, { b with part := b.part + 1 }) else if ptsB b = true then none
 else if owB b = true then (if b.word + ahM b ≤ a.word then some ({ a with word := a.word + lenM b }, b) else if a.word ≤ b.word then some (a, { b with part := b.part + 1, word := b.word - a.word }) else none) else some (a, b)
def breaksP (a b : Mk) : Option (Mk × Mk) :=
 if a.part < b.part then some (a, b) else if b.part < a.part then some ({ a with part := a.part + 1 }, b)
 else if owB a = true then (if b.word ≤ a.word then some ({ a with part := a.part + 1, word := a.word - b.word }, b) else if a.word + ahM a + lenM a ≤ b.word then some (a, { b with word := b.word - lenM a }) else none) else some (a, b)
def joinsP (a b : Mk) : Option (Mk × Mk) :=
 if a.part < b.part then some (a, b) else if b.part + 1 < a.part then some ({ a with part := a.part - 1 }, b)
 else if a.part = b.part then (if owB a = true then some (a, { b with word := b.word - lenM a }) else some (a, b)) else if owB a = true then some ({ a with part := a.part - 1, word := a.word + b.word }, b) else none
end Go.Proofs.Ytmiibjncomgneaa
/-
 Chapter 8, walks: two marks in the other order, the first one joins.
-/
namespace Go.Proofs.Ytmiibjncomgneaa
open Go Go.Vx
set_option linter.unusedSimpArgs false
set_option linter.unusedVariables false
set_option maxRecDepth 20000
end Go.Proofs.Ytmiibjncomgneaa
/-
 Chapter 8, walks: two marks in the other order, the second one breaks.
-/
namespace Go.Proofs.Ytmiibjncomgneaa
open Go Go.Vx
set_option linter.unusedSimpArgs false
set_option linter.unusedVariables false
set_option maxRecDepth 20000
end Go.Proofs.Ytmiibjncomgneaa
/-
 Chapter 8, walks: two marks in the other order, the second one joins.
-/
namespace Go.Proofs.Ytmiibjncomgneaa
open Go Go.Vx
set_option linter.unusedSimpArgs false
set_option linter.unusedVariables false
set_option maxRecDepth 20000
end Go.Proofs.Ytmiibjncomgneaa
