/-
 Chapter 8, plain: two marks in the other order come to the same copy.
-/
import Derived.Test.YtgcmppghjfidfaaGreatDoorVP8R
namespace Go.Proofs.YtgcmppghjfidfaaGreatDoor
open Go Go.Vx
set_option linter.unusedSimpArgs false
set_option linter.unusedVariables false
end Go.Proofs.YtgcmppghjfidfaaGreatDoor
