/-
 Chapter 8, walks: the law of inverses.
-/
import Derived.Test.YtmiibjncomgneaaVGF
namespace Go.Proofs.Ytmiibjncomgneaa
open Go Go.Vx
set_option linter.unusedSimpArgs false
set_option linter.unusedVariables false
set_option maxRecDepth 20000
end Go.Proofs.Ytmiibjncomgneaa
