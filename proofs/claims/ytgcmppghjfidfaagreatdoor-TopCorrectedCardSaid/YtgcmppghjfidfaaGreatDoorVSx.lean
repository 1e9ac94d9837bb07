/-
 The executor's equations, in bundles.
-/
import Derived.Test.YtgcmppghjfidfaaGreatDoorVAli
import Derived.Test.YtgcmppghjfidfaaGreatDoorVMapT
namespace Go.Vx
open Go
theorem sx0 : type_of% (And.intro sxD (And.intro sxP0 (And.intro sxP3 sxGd))) := And.intro sxD (And.intro sxP0 (And.intro sxP3 sxGd))
theorem sx1 : type_of% (And.intro sxP1 (And.intro sxCv (And.intro sxCp (And.intro sxP4 (And.intro sxF (And.intro sxA (And.intro sxS (And.intro @sxK (And.intro sxG (And.intro sxZ (And.intro (And.intro sxY (And.intro sxB (And.intro sxI (And.intro sxM sxJ)))) (And.intro sxH sxU)))))))))))) := And.intro sxP1 (And.intro sxCv (And.intro sxCp (And.intro sxP4 (And.intro sxF (And.intro sxA (And.intro sxS (And.intro @sxK (And.intro sxG (And.intro sxZ (And.intro (And.intro sxY (And.intro sxB (And.intro sxI (And.intro sxM sxJ)))) (And.intro sxH sxU)))))))))))
theorem sx2 : type_of% (And.intro sxS (And.intro sxL (And.intro sxF (And.intro sxG (And.intro (And.intro sxY (And.intro sxB (And.intro sxI (And.intro sxM sxJ)))) (And.intro sxH sxU)))))) := And.intro sxS (And.intro sxL (And.intro sxF (And.intro sxG (And.intro (And.intro sxY (And.intro sxB (And.intro sxI (And.intro sxM sxJ)))) (And.intro sxH sxU)))))
theorem sx3 : type_of% (And.intro sxA (And.intro sxL (And.intro sxF (And.intro sxG (And.intro (And.intro sxY (And.intro sxB (And.intro sxI (And.intro sxM sxJ)))) (And.intro sxH sxU)))))) := And.intro sxA (And.intro sxL (And.intro sxF (And.intro sxG (And.intro (And.intro sxY (And.intro sxB (And.intro sxI (And.intro sxM sxJ)))) (And.intro sxH sxU)))))
theorem sx4 : type_of% (And.intro sxL (And.intro sxG (And.intro (And.intro sxY (And.intro sxB (And.intro sxI (And.intro sxM sxJ)))) (And.intro sxH sxU)))) := And.intro sxL (And.intro sxG (And.intro (And.intro sxY (And.intro sxB (And.intro sxI (And.intro sxM sxJ)))) (And.intro sxH sxU)))
theorem sxR : type_of% (And.intro sxN (And.intro @ne_eq.{1} (And.intro @decide_true @decide_false))) := And.intro sxN (And.intro @ne_eq.{1} (And.intro @decide_true @decide_false))
end Go.Vx
