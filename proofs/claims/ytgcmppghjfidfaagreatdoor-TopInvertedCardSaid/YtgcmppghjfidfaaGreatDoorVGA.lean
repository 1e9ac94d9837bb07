/-
 Chapter 8: what the library's functions on texts and numbers do, as contracts.
-/
import Derived.Test.YtgcmppghjfidfaaGreatDoorVB8
import Derived.Test.YtgcmppghjfidfaaGreatDoorVGlob
import Derived.Test.YtgcmppghjfidfaaGreatDoorVCut
import Derived.Test.YtgcmppghjfidfaaGreatDoorVNum
import Derived.Shelf.Strconv.Itoa3
import Derived.Shelf.Strconv.AtoiAll
import Derived.Shelf.Small.Strs
import Derived.Shelf.Strings.Split
import Derived.Shelf.Strings.Search3
import Derived.Shelf.Strings.Prefix
import Derived.Shelf.Strings.OnBuilder
import Derived.Lib.LaidTab
import Derived.WalkKit
set_option linter.unusedSimpArgs false
set_option linter.unusedVariables false
namespace Go.Proofs.YtgcmppghjfidfaaGreatDoor
open Go Go.Vx Go.Shelf Go.RowKit Go.Sort
def laysItoaR : Ren := ⟨fun | 171 => 74 | 243 => 114 | 246 => 154 | 283 => 184 | 284 => 185 | 285 => 186 | 286 => 187 | 129 => 215 | 317 => 216 | 318 => 217 | 319 => 218 | 320 => 219 | 337 => 235 | 338 => 236 | n => n, fun | 3 => 3 | 9 => 9 | 2 => 2 | 4 => 4 | 171 => 238 | 0 => 0 | 53 => 239 | 37 => 88 | 5 => 5 | 173 => 242 | 212 => 267 | 51 => 265 | 20 => 20 | 213 => 268 | 46 => 237 | 232 => 298 | 233 => 299 | n => n, fun | 17 => 1 | 18 => 6 | 19 => 7 | n => n⟩
set_option maxRecDepth 100000 in
theorem laysItoa : LaysM.n171 Tryz.prog laysItoaR := { mixed := rfl, f129 := Tryz.func215, f171 := Tryz.func74, f243 := Tryz.func114, f246 := Tryz.func154, f283 := Tryz.func184, f284 := Tryz.func185, f285 := Tryz.func186, f286 := Tryz.func187, f317 := Tryz.func216, f318 := Tryz.func217, f319 := Tryz.func218, f320 := Tryz.func219, f337 := Tryz.func235, f338 := Tryz.func236, t0 := Tryz.underlying0, a0 := Tryz.isAgg0, z0 := Tryz.sizeOf0, v0 := Tryz.zeroValue0, t2 := Tryz.underlying2, a2 := Tryz.isAgg2, z2 := Tryz.sizeOf2, v2 := Tryz.zeroValue2, t3 := Tryz.underlying3, a3 := Tryz.isAgg3, z3 := Tryz.sizeOf3, v3 := Tryz.zeroValue3, t4 := Tryz.underlying4, a4 := Tryz.isAgg4, z4 := Tryz.sizeOf4, v4 := Tryz.zeroValue4, t5 := Tryz.underlying5, a5 := Tryz.isAgg5, z5 := Tryz.sizeOf5, v5 := Tryz.zeroValue5, t9 := Tryz.underlying9, a9 := Tryz.isAgg9, z9 := Tryz.sizeOf9, v9 := Tryz.zeroValue9, t20 := Tryz.underlying20, a20 := Tryz.isAgg20, z20 := Tryz.sizeOf20, v20 := Tryz.zeroValue20, t37 := Tryz.underlying88, a37 := Tryz.isAgg88, z37 := Tryz.sizeOf88, v37 := Tryz.zeroValue88, t46 := Tryz.underlying237, a46 := Tryz.isAgg237, z46 := Tryz.sizeOf237, v46 := Tryz.zeroValue237, t51 := Tryz.underlying265, a51 := Tryz.isAgg265, z51 := Tryz.sizeOf265, v51 := Tryz.zeroValue265, t53 := Tryz.underlying239, a53 := Tryz.isAgg239, z53 := Tryz.sizeOf239, v53 := Tryz.zeroValue239, t171 := Tryz.underlying238, a171 := Tryz.isAgg238, z171 := Tryz.sizeOf238, v171 := Tryz.zeroValue238, t173 := Tryz.underlying242, a173 := Tryz.isAgg242, z173 := Tryz.sizeOf242, v173 := Tryz.zeroValue242, t212 := Tryz.underlying267, a212 := Tryz.isAgg267, z212 := Tryz.sizeOf267, v212 := Tryz.zeroValue267, t213 := Tryz.underlying268, a213 := Tryz.isAgg268, z213 := Tryz.sizeOf268, t232 := Tryz.underlying298, a232 := Tryz.isAgg298, z232 := Tryz.sizeOf298, v232 := Tryz.zeroValue298, t233 := Tryz.underlying299, a233 := Tryz.isAgg299, z233 := Tryz.sizeOf299, v233 := Tryz.zeroValue299, g17 := by kernel_rfl, g18 := by kernel_rfl, g19 := by kernel_rfl, i0 := by kernel_rfl, i2 := by kernel_rfl, i3 := by kernel_rfl, i4 := by kernel_rfl, i5 := by kernel_rfl, i9 := by kernel_rfl, i20 := by kernel_rfl, i37 := by kernel_rfl, i46 := by kernel_rfl, i51 := by kernel_rfl, i53 := by kernel_rfl, i171 := by kernel_rfl, i173 := by kernel_rfl, i212 := by kernel_rfl, i232 := by kernel_rfl, i233 := by kernel_rfl, m17 := by kernel_rfl, m18 := by kernel_rfl, m19 := by kernel_rfl }
def laysSplitR : Ren := ⟨fun | 146 => 78 | 221 => 117 | 268 => 156 | 138 => 157 | 143 => 118 | 195 => 188 | 197 => 189 | 218 => 190 | 219 => 158 | 260 => 220 | 217 => 115 | 225 => 191 | 224 => 192 | 267 => 193 | 266 => 155 | 314 => 221 | n => n, fun | 9 => 9 | 31 => 51 | 3 => 3 | 4 => 4 | 0 => 0 | 105 => 245 | 21 => 21 | 5 => 5 | 46 => 237 | 119 => 284 | 139 => 287 | 138 => 286 | 146 => 269 | 51 => 265 | n => n, fun | 1 => 0 | 3 => 4 | 4 => 5 | n => n⟩
set_option maxRecDepth 100000 in
theorem laysSplit : Lays.n146 Tryz.prog laysSplitR := { mixed := rfl, f138 := Tryz.func157, f143 := Tryz.func118, f146 := Tryz.func78, f195 := Tryz.func188, f197 := Tryz.func189, f217 := Tryz.func115, f218 := Tryz.func190, f219 := Tryz.func158, f221 := Tryz.func117, f224 := Tryz.func192, f225 := Tryz.func191, f260 := Tryz.func220, f266 := Tryz.func155, f267 := Tryz.func193, f268 := Tryz.func156, f314 := Tryz.func221, t0 := Tryz.underlying0, a0 := Tryz.isAgg0, z0 := Tryz.sizeOf0, v0 := Tryz.zeroValue0, t3 := Tryz.underlying3, a3 := Tryz.isAgg3, z3 := Tryz.sizeOf3, v3 := Tryz.zeroValue3, t4 := Tryz.underlying4, a4 := Tryz.isAgg4, z4 := Tryz.sizeOf4, v4 := Tryz.zeroValue4, t5 := Tryz.underlying5, a5 := Tryz.isAgg5, z5 := Tryz.sizeOf5, v5 := Tryz.zeroValue5, t9 := Tryz.underlying9, a9 := Tryz.isAgg9, z9 := Tryz.sizeOf9, v9 := Tryz.zeroValue9, t21 := Tryz.underlying21, a21 := Tryz.isAgg21, z21 := Tryz.sizeOf21, v21 := Tryz.zeroValue21, t31 := Tryz.underlying51, a31 := Tryz.isAgg51, z31 := Tryz.sizeOf51, v31 := Tryz.zeroValue51, t46 := Tryz.underlying237, a46 := Tryz.isAgg237, z46 := Tryz.sizeOf237, v46 := Tryz.zeroValue237, t51 := Tryz.underlying265, a51 := Tryz.isAgg265, z51 := Tryz.sizeOf265, v51 := Tryz.zeroValue265, t105 := Tryz.underlying245, a105 := Tryz.isAgg245, z105 := Tryz.sizeOf245, v105 := Tryz.zeroValue245, t119 := Tryz.underlying284, a119 := Tryz.isAgg284, z119 := Tryz.sizeOf284, t138 := Tryz.underlying286, a138 := Tryz.isAgg286, z138 := Tryz.sizeOf286, v138 := Tryz.zeroValue286, t139 := Tryz.underlying287, a139 := Tryz.isAgg287, z139 := Tryz.sizeOf287, v139 := Tryz.zeroValue287, t146 := Tryz.underlying269, a146 := Tryz.isAgg269, z146 := Tryz.sizeOf269, v146 := Tryz.zeroValue269, g1 := by kernel_rfl, g3 := by kernel_rfl, g4 := by kernel_rfl }
def laysAtoiR : Ren := ⟨fun | 172 => 119 | 244 => 159 | 245 => 160 | 247 => 194 | 279 => 195 | 280 => 196 | 281 => 197 | 282 => 198 | 287 => 222 | 316 => 223 | 171 => 74 | 205 => 224 | 321 => 237 | 322 => 238 | 243 => 114 | 246 => 154 | 283 => 184 | 284 => 185 | 285 => 186 | 286 => 187 | 129 => 215 | 317 => 216 | 318 => 217 | 319 => 218 | 320 => 219 | 337 => 235 | 338 => 236 | n => n, fun | 9 => 9 | 3 => 3 | 75 => 92 | 76 => 93 | 4 => 4 | 5 => 5 | 167 => 248 | 37 => 88 | 0 => 0 | 85 => 249 | 2 => 2 | 168 => 251 | 53 => 239 | 175 => 271 | 46 => 237 | 210 => 274 | 127 => 151 | 145 => 291 | 143 => 289 | 21 => 21 | 171 => 238 | 173 => 242 | 212 => 267 | 51 => 265 | 20 => 20 | 213 => 268 | 232 => 298 | 233 => 299 | 80 => 96 | n => n, fun | 15 => 2 | 16 => 3 | 17 => 1 | 18 => 6 | 19 => 7 | n => n⟩
set_option maxRecDepth 100000 in
theorem laysAtoi : LaysC.n172 Tryz.prog laysAtoiR := { mixed := rfl, f129 := Tryz.func215, f171 := Tryz.func74, f172 := Tryz.func119, f205 := Tryz.func224, f243 := Tryz.func114, f244 := Tryz.func159, f245 := Tryz.func160, f246 := Tryz.func154, f247 := Tryz.func194, f279 := Tryz.func195, f280 := Tryz.func196, f281 := Tryz.func197, f282 := Tryz.func198, f283 := Tryz.func184, f284 := Tryz.func185, f285 := Tryz.func186, f286 := Tryz.func187, f287 := Tryz.func222, f316 := Tryz.func223, f317 := Tryz.func216, f318 := Tryz.func217, f319 := Tryz.func218, f320 := Tryz.func219, f321 := Tryz.func237, f322 := Tryz.func238, f337 := Tryz.func235, f338 := Tryz.func236, t0 := Tryz.underlying0, a0 := Tryz.isAgg0, z0 := Tryz.sizeOf0, v0 := Tryz.zeroValue0, t2 := Tryz.underlying2, a2 := Tryz.isAgg2, z2 := Tryz.sizeOf2, v2 := Tryz.zeroValue2, t3 := Tryz.underlying3, a3 := Tryz.isAgg3, z3 := Tryz.sizeOf3, v3 := Tryz.zeroValue3, t4 := Tryz.underlying4, a4 := Tryz.isAgg4, z4 := Tryz.sizeOf4, v4 := Tryz.zeroValue4, t5 := Tryz.underlying5, a5 := Tryz.isAgg5, z5 := Tryz.sizeOf5, v5 := Tryz.zeroValue5, t9 := Tryz.underlying9, a9 := Tryz.isAgg9, z9 := Tryz.sizeOf9, v9 := Tryz.zeroValue9, t20 := Tryz.underlying20, a20 := Tryz.isAgg20, z20 := Tryz.sizeOf20, v20 := Tryz.zeroValue20, t21 := Tryz.underlying21, a21 := Tryz.isAgg21, z21 := Tryz.sizeOf21, v21 := Tryz.zeroValue21, t37 := Tryz.underlying88, a37 := Tryz.isAgg88, z37 := Tryz.sizeOf88, v37 := Tryz.zeroValue88, t46 := Tryz.underlying237, a46 := Tryz.isAgg237, z46 := Tryz.sizeOf237, v46 := Tryz.zeroValue237, t51 := Tryz.underlying265, a51 := Tryz.isAgg265, z51 := Tryz.sizeOf265, v51 := Tryz.zeroValue265, t53 := Tryz.underlying239, a53 := Tryz.isAgg239, z53 := Tryz.sizeOf239, v53 := Tryz.zeroValue239, t75 := Tryz.underlying92, a75 := Tryz.isAgg92, z75 := Tryz.sizeOf92, v75 := Tryz.zeroValue92, t76 := Tryz.underlying93, a76 := Tryz.isAgg93, z76 := Tryz.sizeOf93, v76 := Tryz.zeroValue93, t85 := Tryz.underlying249, a85 := Tryz.isAgg249, z85 := Tryz.sizeOf249, v85 := Tryz.zeroValue249, t127 := Tryz.underlying151, a127 := Tryz.isAgg151, z127 := Tryz.sizeOf151, v127 := Tryz.zeroValue151, t143 := Tryz.underlying289, a143 := Tryz.isAgg289, z143 := Tryz.sizeOf289, v143 := Tryz.zeroValue289, t145 := Tryz.underlying291, a145 := Tryz.isAgg291, z145 := Tryz.sizeOf291, v145 := Tryz.zeroValue291, t167 := Tryz.underlying248, a167 := Tryz.isAgg248, z167 := Tryz.sizeOf248, v167 := Tryz.zeroValue248, t168 := Tryz.underlying251, a168 := Tryz.isAgg251, z168 := Tryz.sizeOf251, v168 := Tryz.zeroValue251, t171 := Tryz.underlying238, a171 := Tryz.isAgg238, z171 := Tryz.sizeOf238, v171 := Tryz.zeroValue238, t173 := Tryz.underlying242, a173 := Tryz.isAgg242, z173 := Tryz.sizeOf242, v173 := Tryz.zeroValue242, t175 := Tryz.underlying271, a175 := Tryz.isAgg271, z175 := Tryz.sizeOf271, v175 := Tryz.zeroValue271, t210 := Tryz.underlying274, a210 := Tryz.isAgg274, z210 := Tryz.sizeOf274, v210 := Tryz.zeroValue274, t212 := Tryz.underlying267, a212 := Tryz.isAgg267, z212 := Tryz.sizeOf267, v212 := Tryz.zeroValue267, t213 := Tryz.underlying268, a213 := Tryz.isAgg268, z213 := Tryz.sizeOf268, t232 := Tryz.underlying298, a232 := Tryz.isAgg298, z232 := Tryz.sizeOf298, v232 := Tryz.zeroValue298, t233 := Tryz.underlying299, a233 := Tryz.isAgg299, z233 := Tryz.sizeOf299, v233 := Tryz.zeroValue299, g15 := by kernel_rfl, g16 := by kernel_rfl, g17 := by kernel_rfl, g18 := by kernel_rfl, g19 := by kernel_rfl, t80 := Tryz.underlying96, a80 := Tryz.isAgg96, z80 := Tryz.sizeOf96, v80 := Tryz.zeroValue96, i0 := by kernel_rfl, i2 := by kernel_rfl, i3 := by kernel_rfl, i4 := by kernel_rfl, i5 := by kernel_rfl, i9 := by kernel_rfl, i20 := by kernel_rfl, i21 := by kernel_rfl, i37 := by kernel_rfl, i46 := by kernel_rfl, i51 := by kernel_rfl, i53 := by kernel_rfl, i75 := by kernel_rfl, i76 := by kernel_rfl, i80 := by kernel_rfl, i85 := by kernel_rfl, i127 := by kernel_rfl, i143 := by kernel_rfl, i145 := by kernel_rfl, i167 := by kernel_rfl, i168 := by kernel_rfl, i171 := by kernel_rfl, i173 := by kernel_rfl, i175 := by kernel_rfl, i210 := by kernel_rfl, i212 := by kernel_rfl, i232 := by kernel_rfl, i233 := by kernel_rfl, m15 := by kernel_rfl, m16 := by kernel_rfl, m17 := by kernel_rfl, m18 := by kernel_rfl, m19 := by kernel_rfl, c0 := by kernel_rfl, c2 := by kernel_rfl, c3 := by kernel_rfl, c4 := by kernel_rfl, c5 := by kernel_rfl, c9 := by kernel_rfl, c20 := by kernel_rfl, c21 := by kernel_rfl, c37 := by kernel_rfl, c46 := by kernel_rfl, c51 := by kernel_rfl, c53 := by kernel_rfl, c75 := by kernel_rfl, c76 := by kernel_rfl, c80 := by kernel_rfl, c85 := by kernel_rfl, c127 := by kernel_rfl, c143 := by kernel_rfl, c145 := by kernel_rfl, c167 := by kernel_rfl, c168 := by kernel_rfl, c171 := by kernel_rfl, c173 := by kernel_rfl, c175 := by kernel_rfl, c210 := by kernel_rfl, c212 := by kernel_rfl, c213 := by kernel_rfl, c232 := by kernel_rfl, c233 := by kernel_rfl }
def laysTrimR : Ren := ⟨fun | 101 => 120 | 208 => 161 | 206 => 179 | n => n, fun | 9 => 9 | 4 => 4 | 3 => 3 | n => n, fun n => n⟩
set_option maxRecDepth 100000 in
theorem laysTrim : Lays.n101 Tryz.prog laysTrimR := { mixed := rfl, f101 := Tryz.func120, f206 := Tryz.func179, f208 := Tryz.func161, t3 := Tryz.underlying3, a3 := Tryz.isAgg3, z3 := Tryz.sizeOf3, v3 := Tryz.zeroValue3, t4 := Tryz.underlying4, a4 := Tryz.isAgg4, z4 := Tryz.sizeOf4, v4 := Tryz.zeroValue4, t9 := Tryz.underlying9, a9 := Tryz.isAgg9, z9 := Tryz.sizeOf9, v9 := Tryz.zeroValue9 }
def laysJoinR : Ren := ⟨fun | 156 => 56 | 165 => 85 | 166 => 42 | 169 => 44 | 240 => 71 | 241 => 130 | 276 => 105 | 277 => 168 | n => n, fun | 31 => 51 | 9 => 9 | 3 => 3 | 4 => 4 | 0 => 0 | 20 => 20 | 72 => 90 | 76 => 93 | 70 => 87 | 37 => 88 | 75 => 92 | 127 => 151 | 164 => 182 | 5 => 5 | 80 => 96 | n => n, fun n => n⟩
set_option maxRecDepth 100000 in
theorem laysJoin : Lays.n156 Tryz.prog laysJoinR := { mixed := rfl, f156 := Tryz.func56, f165 := Tryz.func85, f166 := Tryz.func42, f169 := Tryz.func44, f240 := Tryz.func71, f241 := Tryz.func130, f276 := Tryz.func105, f277 := Tryz.func168, t0 := Tryz.underlying0, a0 := Tryz.isAgg0, z0 := Tryz.sizeOf0, v0 := Tryz.zeroValue0, t3 := Tryz.underlying3, a3 := Tryz.isAgg3, z3 := Tryz.sizeOf3, v3 := Tryz.zeroValue3, t4 := Tryz.underlying4, a4 := Tryz.isAgg4, z4 := Tryz.sizeOf4, v4 := Tryz.zeroValue4, t9 := Tryz.underlying9, a9 := Tryz.isAgg9, z9 := Tryz.sizeOf9, v9 := Tryz.zeroValue9, t20 := Tryz.underlying20, a20 := Tryz.isAgg20, z20 := Tryz.sizeOf20, v20 := Tryz.zeroValue20, t31 := Tryz.underlying51, a31 := Tryz.isAgg51, z31 := Tryz.sizeOf51, v31 := Tryz.zeroValue51, t37 := Tryz.underlying88, a37 := Tryz.isAgg88, z37 := Tryz.sizeOf88, v37 := Tryz.zeroValue88, t70 := Tryz.underlying87, a70 := Tryz.isAgg87, z70 := Tryz.sizeOf87, v70 := Tryz.zeroValue87, t72 := Tryz.underlying90, a72 := Tryz.isAgg90, z72 := Tryz.sizeOf90, v72 := Tryz.zeroValue90, t75 := Tryz.underlying92, a75 := Tryz.isAgg92, z75 := Tryz.sizeOf92, v75 := Tryz.zeroValue92, t76 := Tryz.underlying93, a76 := Tryz.isAgg93, z76 := Tryz.sizeOf93, v76 := Tryz.zeroValue93, t127 := Tryz.underlying151, a127 := Tryz.isAgg151, z127 := Tryz.sizeOf151, v127 := Tryz.zeroValue151, t164 := Tryz.underlying182, a164 := Tryz.isAgg182, z164 := Tryz.sizeOf182, v164 := Tryz.zeroValue182 }
def laysHasR : Ren := ⟨fun | 144 => 79 | 143 => 118 | 219 => 158 | 217 => 115 | 225 => 191 | 224 => 192 | 267 => 193 | 266 => 155 | 314 => 221 | n => n, fun | 9 => 9 | 4 => 4 | 3 => 3 | 5 => 5 | 46 => 237 | 146 => 269 | 51 => 265 | n => n, fun | 1 => 0 | n => n⟩
set_option maxRecDepth 100000 in
theorem laysHas : Lays.n144 Tryz.prog laysHasR := { mixed := rfl, f143 := Tryz.func118, f144 := Tryz.func79, f217 := Tryz.func115, f219 := Tryz.func158, f224 := Tryz.func192, f225 := Tryz.func191, f266 := Tryz.func155, f267 := Tryz.func193, f314 := Tryz.func221, t3 := Tryz.underlying3, a3 := Tryz.isAgg3, z3 := Tryz.sizeOf3, v3 := Tryz.zeroValue3, t4 := Tryz.underlying4, a4 := Tryz.isAgg4, z4 := Tryz.sizeOf4, v4 := Tryz.zeroValue4, t5 := Tryz.underlying5, a5 := Tryz.isAgg5, z5 := Tryz.sizeOf5, v5 := Tryz.zeroValue5, t9 := Tryz.underlying9, a9 := Tryz.isAgg9, z9 := Tryz.sizeOf9, v9 := Tryz.zeroValue9, t46 := Tryz.underlying237, a46 := Tryz.isAgg237, z46 := Tryz.sizeOf237, v46 := Tryz.zeroValue237, t51 := Tryz.underlying265, a51 := Tryz.isAgg265, z51 := Tryz.sizeOf265, v51 := Tryz.zeroValue265, t146 := Tryz.underlying269, a146 := Tryz.isAgg269, z146 := Tryz.sizeOf269, v146 := Tryz.zeroValue269, g1 := by kernel_rfl }
theorem xJoin : Builder.Extra Tryz.prog laysJoinR := { sizeBuilder := by kernel_rfl, liesBuilder := by kernel_rfl, t5 := Tryz.underlying5, a5 := Tryz.isAgg5, z5 := Tryz.sizeOf5, v5 := Tryz.zeroValue5, infoByte := by kernel_rfl, cellsByte := by kernel_rfl, sizeByte := by kernel_rfl, neB5 := by decide }
/-- the words of marks. -/
def nmB (k : Nat) : ByteArray := match k with
 | 1 => ⟨#[111, 117, 116]⟩
 | 2 => ⟨#[105, 110]⟩
 | 3 => ⟨#[99, 104, 97, 110, 103, 101]⟩
 | 4 => ⟨#[115, 119, 97, 112]⟩
 | 5 => ⟨#[98, 114, 101, 97, 107]⟩
 | 6 => ⟨#[106, 111, 105, 110]⟩
 | 7 => ⟨#[116, 117, 114, 110]⟩
 | _ => ⟨#[]⟩
def nmL : List ByteArray := [nmB 0, nmB 1, nmB 2, nmB 3, nmB 4, nmB 5, nmB 6, nmB 7]
def IfV (v : Value) : Prop := v = .nilIface ∨ ∃ te pe, v = .iface te pe
/-- what the package variables hold that the library's functions look at. -/
def glob (w : World) : Prop := Lib.TabIs Tryz.prog w "internal/strconv.uint64pow10" .u64 Lib.pow10Tab ∧ (∃ ev, w.cell? ⟨2, 0, none⟩ = some ev ∧ IfV ev) ∧ (∃ ev, w.cell? ⟨3, 0, none⟩ = some ev ∧ IfV ev) ∧ ∃ m, w.cell? ⟨0, 0, none⟩ = some (.int .i64 m)
theorem cell_up {w w' : World} (hb : ∀ b, b < w.heap.size → w'.heap[b]? = w.heap[b]?) {a : Addr} {v : Value} (h : w.cell? a = some v) : w'.cell? a = some v := by
 unfold World.cell? at h ⊢
 cases hh : w.heap[a.block]? with
 | none => rw [hh] at h; cases h
 | some o =>
  rw [hb _ (Array.getElem?_eq_some_iff.1 hh).1]
  exact h
theorem glob_ok : GlOk glob := fun w w' hs hb ⟨h1, ⟨ev, h2, h3⟩, ⟨er, h4, h5⟩, m, h6⟩ => by
 refine ⟨?_, ⟨ev, cell_up hb h2, h3⟩, ⟨er, cell_up hb h4, h5⟩, m, cell_up hb h6⟩
 unfold Lib.TabIs World.var? at h1 ⊢
 cases hg : Tryz.prog.globalNamed "internal/strconv.uint64pow10" with
 | none => rw [hg] at h1; cases h1
 | some g =>
  rw [hg] at h1
  simp only [Option.bind_some] at h1 ⊢
  cases hh : w.heap[g]? with
  | none => rw [hh] at h1; cases h1
  | some o =>
   rw [hb _ (Array.getElem?_eq_some_iff.1 hh).1]
   exact h1
theorem grow_below (w : World) (k : Nat) (os : Array Obj) : Below w.heap.size w (grow (w.drewN k) os) :=
 ⟨rfl, rfl, rfl, by simp [grow, World.drewN], fun b hb => by
  show (w.heap ++ os)[b]? = w.heap[b]?
  rw [Array.getElem?_append_left hb]⟩
theorem itoa_s (n : Int) (h0 : -9223372036854775808 ≤ n) (h1 : n ≤ 9223372036854775807) : CtrK glob Tryz.prog 74 [(.v (.int .i64 n))] (fun rr => rr = ⟨(.v (.string (⟨(Lib.itoa n).toArray⟩))), []⟩) :=
 CtrK.vals (xs := [.int .i64 n]) Tryz.func74 rfl rfl (u := .string ⟨(Lib.itoa n).toArray⟩) (fun g => rfl) fun w hg => (Any.strconv_Itoa laysItoa n h0 h1 w hg.1).mono fun e w' ⟨he, k, os, hw⟩ => ⟨he, by rw [hw]; exact grow_below w k os⟩
theorem split_s (s : ByteArray) (c : UInt8) (hs : s.size < 4294967281) : CtrK glob Tryz.prog 78 [(.v (.string (s))), (.v (.string (⟨#[c]⟩)))] (fun rr => rr = ⟨.row 0, [.own 9 1 ((Lib.splitB ⟨#[c]⟩ 0 (Lib.countB s ⟨#[c]⟩) s).map fun x => [.v (.string x)])]⟩) :=
 CtrK.strs (xs := [.string s, .string ⟨#[c]⟩]) Tryz.func78 rfl rfl fun w hg => by
  obtain ⟨m, hm⟩ := hg.2.2.2
  have hlen := Lib.splitB_all ⟨#[c]⟩ (Nat.le_refl 1) 0 _ s rfl
  have hsz := Lib.countB_le ⟨#[c]⟩ (Nat.le_refl 1) s.size s (Nat.le_refl _)
  refine (Any.strings_Split laysSplit (by kernel_rfl) s ⟨#[c]⟩ m w hs hm (Nat.le_refl 1)).mono fun e w' ⟨he, hw⟩ => ⟨_, he, ?_, ?_⟩
  ·rw [hw]; exact Below.alloc (Below.refl _ _) (Nat.le_refl _) _
  ·generalize Lib.splitB ⟨#[c]⟩ 0 (Lib.countB s ⟨#[c]⟩) s = l at hlen hw ⊢
   rw [hw]
   refine ⟨by simp, .inr ⟨w.heap.size, _, (l.map Value.string).toArray, by rw [hlen], Nat.le_refl _, heap_alloc_new w _, by omega, by simp only [maxLen]; omega, by simp; omega, by simp [List.take_of_length_le]⟩⟩
theorem trim_s (s p : ByteArray) : Ctr Tryz.prog 120 [(.v (.string (s))), (.v (.string (p)))] (fun rr => rr = ⟨(.v (.string (⟨(Lib.trimPrefix s.data.toList p.data.toList).toArray⟩))), []⟩) :=
 Ctr.vals (xs := [.string s, .string p]) Tryz.func120 rfl rfl (u := .string ⟨(Lib.trimPrefix s.data.toList p.data.toList).toArray⟩) (fun g => rfl) fun w => (Any.strings_TrimPrefix laysTrim s p w).mono fun e w' ⟨he, hw⟩ => ⟨he, by rw [hw]; exact Below.refl _ _⟩
theorem eS_cell {μ : Mu} {w : World} (hμ : ∀ f, (μ f).In w) {b : Bool} {A : Option Addr} {l : List ByteArray} (h : RdE μ (l.map fun x => [D.v (.string x)]) b A 1 0) (j : Nat) (x : ByteArray) (hj : l[j]? = some x) : ∃ ad, A = some ad ∧ w.cell? (ad.add j) = some (.string x) := by
 obtain ⟨-, ad, h1, h2⟩ := h.get j [D.v (.string x)] (by rw [List.getElem?_map, hj]; rfl)
 refine ⟨ad, h1, ?_⟩
 simp only [RdC] at h2
 obtain ⟨⟨y, h3, h4⟩, -⟩ := h2
 simp only [Rd] at h4
 rw [h4.1] at h3
 have := (hμ b).cell h3
 rw [show ((0 + j) * 1) = j by omega, Addr.add_add, Nat.add_zero] at this
 exact this
theorem addr_none {w : World} {ad : Addr} {v : Value} (h : w.cell? (ad.add 0) = some v) : ad.spot = none ∧ ad.block < w.heap.size := by
 have e : ad.add 0 = ad := by unfold Addr.add; rfl
 rw [e] at h
 unfold World.cell? at h
 cases hh : w.heap[ad.block]? with
 | none => rw [hh] at h; cases h
 | some o =>
  rw [hh] at h
  refine ⟨?_, (Array.getElem?_eq_some_iff.1 hh).1⟩
  cases hs : ad.spot with
  | none => rfl
  | some q =>
   rw [hs] at h
   split at h <;> simp_all
theorem addr_at (bk o j : Nat) : (⟨bk, o, none⟩ : Addr).add j = ⟨bk, o + j, none⟩ := by
 unfold Addr.add
 split <;> simp_all
theorem join_s (b : Bool) (ws : List ByteArray) (sep : ByteArray) (hN : ws.length ≤ 1000000) (hlen : (Lib.join (ws.map (·.data.toList)) sep.data.toList).length ≤ 140737488355328) :
  Ctr Tryz.prog 56 [.sl b 1 (ws.map fun x => [.v (.string x)]), (.v (.string (sep)))] (fun rr => rr = ⟨(.v (.string (⟨(Lib.join (ws.map (·.data.toList)) sep.data.toList).toArray⟩))), []⟩) := by
 refine ⟨⟨_, Tryz.func56, rfl, rfl⟩, fun w kp hk vs hr => ?_⟩
 have hμ : ∀ f, (muOf kp w f).In w := fun f => by
  cases f
  ·exact fun b o h => h
  ·exact hk
 match vs, hr with
 | [u, v], hr =>
  simp only [rels, rel] at hr
  obtain ⟨hu, hv, -⟩ := hr
  simp only [Rd] at hu
  obtain ⟨A, c, rfl, hc, hE⟩ := hu
  subst hv
  rw [List.length_map] at hc ⊢
  have fin : (Calls Tryz.prog 56 #[.slice A ws.length c, .string sep] w fun e w' => e = .returned (.string ⟨(Lib.join (ws.map (·.data.toList)) sep.data.toList).toArray⟩) ∧ Below w.heap.size w w') := by
   cases hws : ws with
   | nil =>
    refine (Any.strings_Join_none laysJoin xJoin A c sep w).mono fun e w' ⟨he, hw⟩ => ⟨he, by rw [hw]; exact Below.refl _ _⟩
   | cons x xs =>
    obtain ⟨ad, rfl, h0⟩ := eS_cell hμ hE 0 x (by rw [hws]; rfl)
    obtain ⟨hs, hb⟩ := addr_none h0
    obtain ⟨bk, o, sp⟩ := ad
    simp only at hs hb
    subst hs
    rw [← hws]
    refine Any.strings_Join laysJoin xJoin bk o c ws sep w (fun j y hj => ?_) hb (by omega) hc hlen
    obtain ⟨ad', h1, h2⟩ := eS_cell hμ hE j y hj
    cases h1
    rw [addr_at] at h2
    exact h2
  refine fin.mono fun e w' ⟨he, hw⟩ => ⟨_, _, he, rfl, RetOk.plain hk hw (fun g => rfl)⟩
theorem atoi_ok (s : ByteArray) (hlim : s.size ≤ 281474976710656) (v : Int) (h : Lib.atoiAll s.data.toList = .ok v) : CtrK glob Tryz.prog 119 [(.v (.string (s)))] (fun rr => rr = ⟨.tup [(.v (.int .i64 v)), .v .nilIface], []⟩) :=
 CtrK.vals (xs := [.string s]) Tryz.func119 rfl rfl (u := .tuple #[.int .i64 v, .nilIface]) (fun g => by
  simp only [rel]
  exact ⟨_, rfl, rels_same [.int .i64 v, .nilIface]⟩) fun w hg => (Any.strconv_Atoi_ok laysAtoi s (by omega) v h w).mono fun e w' ⟨he, hw⟩ => ⟨he, by
   rcases hw with rfl | ⟨t, rfl⟩
   ·exact Below.refl _ _
   ·exact Lib.bytesWorld_below _ _ _⟩
theorem atoi_bad (s : ByteArray) (hlim : s.size ≤ 281474976710656) (h : ∀ v, Lib.atoiAll s.data.toList ≠ .ok v) : CtrK glob Tryz.prog 119 [(.v (.string (s)))] (fun rr => ∃ n t p, rr = ⟨.tup [(.v (.int .i64 n)), .v (.iface t p)], []⟩) :=
 ⟨⟨_, Tryz.func119, rfl, rfl⟩, fun w kp hk hg vs hr => by
  have hr' : rels (gh0 kp w) ([Value.string s].map .v) vs := hr
  rw [rels_vs hr']
  obtain ⟨ev, he, hev⟩ := hg.2.1
  obtain ⟨er, hr, her⟩ := hg.2.2.1
  rcases h1 : Lib.atoiAll s.data.toList with v | _ | _
  ·exact absurd h1 (h v)
  ·refine (Any.strconv_Atoi_syntax laysAtoi s hlim h1 ev _ ?_ hev).mono ?_
   ·exact he
   rintro e W1 ⟨N, rfl, -, -, hb⟩
   exact ⟨_, _, rfl, ⟨_, _, _, rfl⟩, RetOk.plain hk hb (fun g => by
    simp only [rel]
    exact ⟨_, rfl, rels_same [.int .i64 0, .iface _ (.pointer (some ⟨N, 0, none⟩))]⟩)⟩
  ·refine (Any.strconv_Atoi_range laysAtoi s hlim h1 er _ ?_ her).mono ?_
   ·exact hr
   rintro e W1 ⟨N, rfl, -, -, hb⟩
   exact ⟨_, _, rfl, ⟨_, _, _, rfl⟩, RetOk.plain hk hb (fun g => by
    simp only [rel]
    exact ⟨_, rfl, rels_same [.int .i64 _, .iface _ (.pointer (some ⟨N, 0, none⟩))]⟩)⟩⟩
theorem has_s (s : ByteArray) (c : UInt8) : Ctr Tryz.prog 79 [(.v (.string (s))), (.v (.string (⟨#[c]⟩)))] (fun rr => rr = ⟨(.v (.bool (decide (0 ≤ Lib.indexByte s.data.toList c)))), []⟩) :=
 Ctr.vals (xs := [.string s, .string ⟨#[c]⟩]) Tryz.func79 rfl rfl (u := .bool (decide (0 ≤ Lib.indexByte s.data.toList c))) (fun g => rfl) fun w => (Any.strings_Contains_one laysHas s c w).mono fun e w' ⟨he, hw⟩ => ⟨he, by rw [hw]; exact Below.refl _ _⟩
end Go.Proofs.YtgcmppghjfidfaaGreatDoor

