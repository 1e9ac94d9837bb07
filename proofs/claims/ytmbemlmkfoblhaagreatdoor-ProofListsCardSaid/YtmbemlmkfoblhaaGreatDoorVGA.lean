/-
 Chapter 8: what the library's functions on texts and numbers do, as contracts.
-/
import Derived.Test.YtmbemlmkfoblhaaGreatDoorVB8
import Derived.Test.YtmbemlmkfoblhaaGreatDoorVGlob
import Derived.Test.YtmbemlmkfoblhaaGreatDoorVCut
import Derived.Test.YtmbemlmkfoblhaaGreatDoorVNum
import Derived.Shelf.Strconv.Itoa3
import Derived.Shelf.Strconv.AtoiAll
import Derived.Shelf.Small.Strs
import Derived.Shelf.Strings.Split
import Derived.Shelf.Strings.Search3
import Derived.Shelf.Strings.Prefix
import Derived.Shelf.Strings.OnBuilder
import Derived.Lib.LaidTab
import Derived.WalkKit
set_option linter.unusedSimpArgs false
set_option linter.unusedVariables false
namespace Go.Proofs.YtmbemlmkfoblhaaGreatDoor
open Go Go.Vx Go.Shelf Go.RowKit Go.Sort
def laysItoaR : Ren := ⟨fun | 171 => 29 | 243 => 65 | 246 => 89 | 283 => 115 | 284 => 116 | 285 => 117 | 286 => 118 | 129 => 148 | 317 => 147 | 318 => 149 | 319 => 150 | 320 => 151 | 337 => 162 | 338 => 163 | n => n, fun | 3 => 3 | 9 => 9 | 2 => 2 | 4 => 4 | 171 => 149 | 0 => 0 | 53 => 150 | 37 => 95 | 5 => 5 | 173 => 153 | 212 => 173 | 51 => 174 | 20 => 20 | 213 => 175 | 46 => 159 | 232 => 199 | 233 => 200 | n => n, fun | 17 => 2 | 18 => 7 | 19 => 8 | n => n⟩
set_option maxRecDepth 100000 in
theorem laysItoa : LaysM.n171 Tryz.prog laysItoaR := { mixed := rfl, f129 := Tryz.func148, f171 := Tryz.func29, f243 := Tryz.func65, f246 := Tryz.func89, f283 := Tryz.func115, f284 := Tryz.func116, f285 := Tryz.func117, f286 := Tryz.func118, f317 := Tryz.func147, f318 := Tryz.func149, f319 := Tryz.func150, f320 := Tryz.func151, f337 := Tryz.func162, f338 := Tryz.func163, t0 := Tryz.underlying0, a0 := Tryz.isAgg0, z0 := Tryz.sizeOf0, v0 := Tryz.zeroValue0, t2 := Tryz.underlying2, a2 := Tryz.isAgg2, z2 := Tryz.sizeOf2, v2 := Tryz.zeroValue2, t3 := Tryz.underlying3, a3 := Tryz.isAgg3, z3 := Tryz.sizeOf3, v3 := Tryz.zeroValue3, t4 := Tryz.underlying4, a4 := Tryz.isAgg4, z4 := Tryz.sizeOf4, v4 := Tryz.zeroValue4, t5 := Tryz.underlying5, a5 := Tryz.isAgg5, z5 := Tryz.sizeOf5, v5 := Tryz.zeroValue5, t9 := Tryz.underlying9, a9 := Tryz.isAgg9, z9 := Tryz.sizeOf9, v9 := Tryz.zeroValue9, t20 := Tryz.underlying20, a20 := Tryz.isAgg20, z20 := Tryz.sizeOf20, v20 := Tryz.zeroValue20, t37 := Tryz.underlying95, a37 := Tryz.isAgg95, z37 := Tryz.sizeOf95, v37 := Tryz.zeroValue95, t46 := Tryz.underlying159, a46 := Tryz.isAgg159, z46 := Tryz.sizeOf159, v46 := Tryz.zeroValue159, t51 := Tryz.underlying174, a51 := Tryz.isAgg174, z51 := Tryz.sizeOf174, v51 := Tryz.zeroValue174, t53 := Tryz.underlying150, a53 := Tryz.isAgg150, z53 := Tryz.sizeOf150, v53 := Tryz.zeroValue150, t171 := Tryz.underlying149, a171 := Tryz.isAgg149, z171 := Tryz.sizeOf149, v171 := Tryz.zeroValue149, t173 := Tryz.underlying153, a173 := Tryz.isAgg153, z173 := Tryz.sizeOf153, v173 := Tryz.zeroValue153, t212 := Tryz.underlying173, a212 := Tryz.isAgg173, z212 := Tryz.sizeOf173, v212 := Tryz.zeroValue173, t213 := Tryz.underlying175, a213 := Tryz.isAgg175, z213 := Tryz.sizeOf175, t232 := Tryz.underlying199, a232 := Tryz.isAgg199, z232 := Tryz.sizeOf199, v232 := Tryz.zeroValue199, t233 := Tryz.underlying200, a233 := Tryz.isAgg200, z233 := Tryz.sizeOf200, v233 := Tryz.zeroValue200, g17 := by kernel_rfl, g18 := by kernel_rfl, g19 := by kernel_rfl, i0 := by kernel_rfl, i2 := by kernel_rfl, i3 := by kernel_rfl, i4 := by kernel_rfl, i5 := by kernel_rfl, i9 := by kernel_rfl, i20 := by kernel_rfl, i37 := by kernel_rfl, i46 := by kernel_rfl, i51 := by kernel_rfl, i53 := by kernel_rfl, i171 := by kernel_rfl, i173 := by kernel_rfl, i212 := by kernel_rfl, i232 := by kernel_rfl, i233 := by kernel_rfl, m17 := by kernel_rfl, m18 := by kernel_rfl, m19 := by kernel_rfl }
def laysSplitR : Ren := ⟨fun | 146 => 31 | 221 => 67 | 268 => 91 | 138 => 92 | 143 => 68 | 195 => 120 | 197 => 121 | 218 => 122 | 219 => 93 | 260 => 152 | 217 => 99 | 225 => 123 | 224 => 124 | 267 => 125 | 266 => 132 | 314 => 153 | n => n, fun | 9 => 9 | 31 => 61 | 3 => 3 | 4 => 4 | 0 => 0 | 105 => 157 | 21 => 21 | 5 => 5 | 46 => 159 | 119 => 188 | 139 => 191 | 138 => 190 | 146 => 177 | 51 => 174 | n => n, fun | 1 => 1 | 3 => 5 | 4 => 6 | n => n⟩
set_option maxRecDepth 100000 in
theorem laysSplit : Lays.n146 Tryz.prog laysSplitR := { mixed := rfl, f138 := Tryz.func92, f143 := Tryz.func68, f146 := Tryz.func31, f195 := Tryz.func120, f197 := Tryz.func121, f217 := Tryz.func99, f218 := Tryz.func122, f219 := Tryz.func93, f221 := Tryz.func67, f224 := Tryz.func124, f225 := Tryz.func123, f260 := Tryz.func152, f266 := Tryz.func132, f267 := Tryz.func125, f268 := Tryz.func91, f314 := Tryz.func153, t0 := Tryz.underlying0, a0 := Tryz.isAgg0, z0 := Tryz.sizeOf0, v0 := Tryz.zeroValue0, t3 := Tryz.underlying3, a3 := Tryz.isAgg3, z3 := Tryz.sizeOf3, v3 := Tryz.zeroValue3, t4 := Tryz.underlying4, a4 := Tryz.isAgg4, z4 := Tryz.sizeOf4, v4 := Tryz.zeroValue4, t5 := Tryz.underlying5, a5 := Tryz.isAgg5, z5 := Tryz.sizeOf5, v5 := Tryz.zeroValue5, t9 := Tryz.underlying9, a9 := Tryz.isAgg9, z9 := Tryz.sizeOf9, v9 := Tryz.zeroValue9, t21 := Tryz.underlying21, a21 := Tryz.isAgg21, z21 := Tryz.sizeOf21, v21 := Tryz.zeroValue21, t31 := Tryz.underlying61, a31 := Tryz.isAgg61, z31 := Tryz.sizeOf61, v31 := Tryz.zeroValue61, t46 := Tryz.underlying159, a46 := Tryz.isAgg159, z46 := Tryz.sizeOf159, v46 := Tryz.zeroValue159, t51 := Tryz.underlying174, a51 := Tryz.isAgg174, z51 := Tryz.sizeOf174, v51 := Tryz.zeroValue174, t105 := Tryz.underlying157, a105 := Tryz.isAgg157, z105 := Tryz.sizeOf157, v105 := Tryz.zeroValue157, t119 := Tryz.underlying188, a119 := Tryz.isAgg188, z119 := Tryz.sizeOf188, t138 := Tryz.underlying190, a138 := Tryz.isAgg190, z138 := Tryz.sizeOf190, v138 := Tryz.zeroValue190, t139 := Tryz.underlying191, a139 := Tryz.isAgg191, z139 := Tryz.sizeOf191, v139 := Tryz.zeroValue191, t146 := Tryz.underlying177, a146 := Tryz.isAgg177, z146 := Tryz.sizeOf177, v146 := Tryz.zeroValue177, g1 := by kernel_rfl, g3 := by kernel_rfl, g4 := by kernel_rfl }
def laysAtoiR : Ren := ⟨fun | 172 => 69 | 244 => 94 | 245 => 95 | 247 => 126 | 279 => 127 | 280 => 128 | 281 => 129 | 282 => 130 | 287 => 154 | 316 => 155 | 171 => 29 | 205 => 156 | 321 => 164 | 322 => 165 | 243 => 65 | 246 => 89 | 283 => 115 | 284 => 116 | 285 => 117 | 286 => 118 | 129 => 148 | 317 => 147 | 318 => 149 | 319 => 150 | 320 => 151 | 337 => 162 | 338 => 163 | n => n, fun | 9 => 9 | 3 => 3 | 75 => 99 | 76 => 100 | 4 => 4 | 5 => 5 | 167 => 160 | 37 => 95 | 0 => 0 | 85 => 161 | 2 => 2 | 168 => 163 | 53 => 150 | 175 => 179 | 46 => 159 | 210 => 183 | 127 => 122 | 145 => 195 | 143 => 193 | 21 => 21 | 171 => 149 | 173 => 153 | 212 => 173 | 51 => 174 | 20 => 20 | 213 => 175 | 232 => 199 | 233 => 200 | 80 => 102 | n => n, fun | 15 => 3 | 16 => 4 | 17 => 2 | 18 => 7 | 19 => 8 | n => n⟩
set_option maxRecDepth 100000 in
theorem laysAtoi : LaysC.n172 Tryz.prog laysAtoiR := { mixed := rfl, f129 := Tryz.func148, f171 := Tryz.func29, f172 := Tryz.func69, f205 := Tryz.func156, f243 := Tryz.func65, f244 := Tryz.func94, f245 := Tryz.func95, f246 := Tryz.func89, f247 := Tryz.func126, f279 := Tryz.func127, f280 := Tryz.func128, f281 := Tryz.func129, f282 := Tryz.func130, f283 := Tryz.func115, f284 := Tryz.func116, f285 := Tryz.func117, f286 := Tryz.func118, f287 := Tryz.func154, f316 := Tryz.func155, f317 := Tryz.func147, f318 := Tryz.func149, f319 := Tryz.func150, f320 := Tryz.func151, f321 := Tryz.func164, f322 := Tryz.func165, f337 := Tryz.func162, f338 := Tryz.func163, t0 := Tryz.underlying0, a0 := Tryz.isAgg0, z0 := Tryz.sizeOf0, v0 := Tryz.zeroValue0, t2 := Tryz.underlying2, a2 := Tryz.isAgg2, z2 := Tryz.sizeOf2, v2 := Tryz.zeroValue2, t3 := Tryz.underlying3, a3 := Tryz.isAgg3, z3 := Tryz.sizeOf3, v3 := Tryz.zeroValue3, t4 := Tryz.underlying4, a4 := Tryz.isAgg4, z4 := Tryz.sizeOf4, v4 := Tryz.zeroValue4, t5 := Tryz.underlying5, a5 := Tryz.isAgg5, z5 := Tryz.sizeOf5, v5 := Tryz.zeroValue5, t9 := Tryz.underlying9, a9 := Tryz.isAgg9, z9 := Tryz.sizeOf9, v9 := Tryz.zeroValue9, t20 := Tryz.underlying20, a20 := Tryz.isAgg20, z20 := Tryz.sizeOf20, v20 := Tryz.zeroValue20, t21 := Tryz.underlying21, a21 := Tryz.isAgg21, z21 := Tryz.sizeOf21, v21 := Tryz.zeroValue21, t37 := Tryz.underlying95, a37 := Tryz.isAgg95, z37 := Tryz.sizeOf95, v37 := Tryz.zeroValue95, t46 := Tryz.underlying159, a46 := Tryz.isAgg159, z46 := Tryz.sizeOf159, v46 := Tryz.zeroValue159, t51 := Tryz.underlying174, a51 := Tryz.isAgg174, z51 := Tryz.sizeOf174, v51 := Tryz.zeroValue174, t53 := Tryz.underlying150, a53 := Tryz.isAgg150, z53 := Tryz.sizeOf150, v53 := Tryz.zeroValue150, t75 := Tryz.underlying99, a75 := Tryz.isAgg99, z75 := Tryz.sizeOf99, v75 := Tryz.zeroValue99, t76 := Tryz.underlying100, a76 := Tryz.isAgg100, z76 := Tryz.sizeOf100, v76 := Tryz.zeroValue100, t85 := Tryz.underlying161, a85 := Tryz.isAgg161, z85 := Tryz.sizeOf161, v85 := Tryz.zeroValue161, t127 := Tryz.underlying122, a127 := Tryz.isAgg122, z127 := Tryz.sizeOf122, v127 := Tryz.zeroValue122, t143 := Tryz.underlying193, a143 := Tryz.isAgg193, z143 := Tryz.sizeOf193, v143 := Tryz.zeroValue193, t145 := Tryz.underlying195, a145 := Tryz.isAgg195, z145 := Tryz.sizeOf195, v145 := Tryz.zeroValue195, t167 := Tryz.underlying160, a167 := Tryz.isAgg160, z167 := Tryz.sizeOf160, v167 := Tryz.zeroValue160, t168 := Tryz.underlying163, a168 := Tryz.isAgg163, z168 := Tryz.sizeOf163, v168 := Tryz.zeroValue163, t171 := Tryz.underlying149, a171 := Tryz.isAgg149, z171 := Tryz.sizeOf149, v171 := Tryz.zeroValue149, t173 := Tryz.underlying153, a173 := Tryz.isAgg153, z173 := Tryz.sizeOf153, v173 := Tryz.zeroValue153, t175 := Tryz.underlying179, a175 := Tryz.isAgg179, z175 := Tryz.sizeOf179, v175 := Tryz.zeroValue179, t210 := Tryz.underlying183, a210 := Tryz.isAgg183, z210 := Tryz.sizeOf183, v210 := Tryz.zeroValue183, t212 := Tryz.underlying173, a212 := Tryz.isAgg173, z212 := Tryz.sizeOf173, v212 := Tryz.zeroValue173, t213 := Tryz.underlying175, a213 := Tryz.isAgg175, z213 := Tryz.sizeOf175, t232 := Tryz.underlying199, a232 := Tryz.isAgg199, z232 := Tryz.sizeOf199, v232 := Tryz.zeroValue199, t233 := Tryz.underlying200, a233 := Tryz.isAgg200, z233 := Tryz.sizeOf200, v233 := Tryz.zeroValue200, g15 := by kernel_rfl, g16 := by kernel_rfl, g17 := by kernel_rfl, g18 := by kernel_rfl, g19 := by kernel_rfl, t80 := Tryz.underlying102, a80 := Tryz.isAgg102, z80 := Tryz.sizeOf102, v80 := Tryz.zeroValue102, i0 := by kernel_rfl, i2 := by kernel_rfl, i3 := by kernel_rfl, i4 := by kernel_rfl, i5 := by kernel_rfl, i9 := by kernel_rfl, i20 := by kernel_rfl, i21 := by kernel_rfl, i37 := by kernel_rfl, i46 := by kernel_rfl, i51 := by kernel_rfl, i53 := by kernel_rfl, i75 := by kernel_rfl, i76 := by kernel_rfl, i80 := by kernel_rfl, i85 := by kernel_rfl, i127 := by kernel_rfl, i143 := by kernel_rfl, i145 := by kernel_rfl, i167 := by kernel_rfl, i168 := by kernel_rfl, i171 := by kernel_rfl, i173 := by kernel_rfl, i175 := by kernel_rfl, i210 := by kernel_rfl, i212 := by kernel_rfl, i232 := by kernel_rfl, i233 := by kernel_rfl, m15 := by kernel_rfl, m16 := by kernel_rfl, m17 := by kernel_rfl, m18 := by kernel_rfl, m19 := by kernel_rfl, c0 := by kernel_rfl, c2 := by kernel_rfl, c3 := by kernel_rfl, c4 := by kernel_rfl, c5 := by kernel_rfl, c9 := by kernel_rfl, c20 := by kernel_rfl, c21 := by kernel_rfl, c37 := by kernel_rfl, c46 := by kernel_rfl, c51 := by kernel_rfl, c53 := by kernel_rfl, c75 := by kernel_rfl, c76 := by kernel_rfl, c80 := by kernel_rfl, c85 := by kernel_rfl, c127 := by kernel_rfl, c143 := by kernel_rfl, c145 := by kernel_rfl, c167 := by kernel_rfl, c168 := by kernel_rfl, c171 := by kernel_rfl, c173 := by kernel_rfl, c175 := by kernel_rfl, c210 := by kernel_rfl, c212 := by kernel_rfl, c213 := by kernel_rfl, c232 := by kernel_rfl, c233 := by kernel_rfl }
def laysTrimR : Ren := ⟨fun | 101 => 70 | 208 => 96 | 206 => 131 | n => n, fun | 9 => 9 | 4 => 4 | 3 => 3 | n => n, fun n => n⟩
set_option maxRecDepth 100000 in
theorem laysTrim : Lays.n101 Tryz.prog laysTrimR := { mixed := rfl, f101 := Tryz.func70, f206 := Tryz.func131, f208 := Tryz.func96, t3 := Tryz.underlying3, a3 := Tryz.isAgg3, z3 := Tryz.sizeOf3, v3 := Tryz.zeroValue3, t4 := Tryz.underlying4, a4 := Tryz.isAgg4, z4 := Tryz.sizeOf4, v4 := Tryz.zeroValue4, t9 := Tryz.underlying9, a9 := Tryz.isAgg9, z9 := Tryz.sizeOf9, v9 := Tryz.zeroValue9 }
def laysJoinR : Ren := ⟨fun | 156 => 30 | 165 => 66 | 166 => 46 | 169 => 47 | 240 => 76 | 241 => 90 | 276 => 98 | 277 => 119 | n => n, fun | 31 => 61 | 9 => 9 | 3 => 3 | 4 => 4 | 0 => 0 | 20 => 20 | 72 => 97 | 76 => 100 | 70 => 94 | 37 => 95 | 75 => 99 | 127 => 122 | 164 => 135 | 5 => 5 | 80 => 102 | n => n, fun n => n⟩
set_option maxRecDepth 100000 in
theorem laysJoin : Lays.n156 Tryz.prog laysJoinR := { mixed := rfl, f156 := Tryz.func30, f165 := Tryz.func66, f166 := Tryz.func46, f169 := Tryz.func47, f240 := Tryz.func76, f241 := Tryz.func90, f276 := Tryz.func98, f277 := Tryz.func119, t0 := Tryz.underlying0, a0 := Tryz.isAgg0, z0 := Tryz.sizeOf0, v0 := Tryz.zeroValue0, t3 := Tryz.underlying3, a3 := Tryz.isAgg3, z3 := Tryz.sizeOf3, v3 := Tryz.zeroValue3, t4 := Tryz.underlying4, a4 := Tryz.isAgg4, z4 := Tryz.sizeOf4, v4 := Tryz.zeroValue4, t9 := Tryz.underlying9, a9 := Tryz.isAgg9, z9 := Tryz.sizeOf9, v9 := Tryz.zeroValue9, t20 := Tryz.underlying20, a20 := Tryz.isAgg20, z20 := Tryz.sizeOf20, v20 := Tryz.zeroValue20, t31 := Tryz.underlying61, a31 := Tryz.isAgg61, z31 := Tryz.sizeOf61, v31 := Tryz.zeroValue61, t37 := Tryz.underlying95, a37 := Tryz.isAgg95, z37 := Tryz.sizeOf95, v37 := Tryz.zeroValue95, t70 := Tryz.underlying94, a70 := Tryz.isAgg94, z70 := Tryz.sizeOf94, v70 := Tryz.zeroValue94, t72 := Tryz.underlying97, a72 := Tryz.isAgg97, z72 := Tryz.sizeOf97, v72 := Tryz.zeroValue97, t75 := Tryz.underlying99, a75 := Tryz.isAgg99, z75 := Tryz.sizeOf99, v75 := Tryz.zeroValue99, t76 := Tryz.underlying100, a76 := Tryz.isAgg100, z76 := Tryz.sizeOf100, v76 := Tryz.zeroValue100, t127 := Tryz.underlying122, a127 := Tryz.isAgg122, z127 := Tryz.sizeOf122, v127 := Tryz.zeroValue122, t164 := Tryz.underlying135, a164 := Tryz.isAgg135, z164 := Tryz.sizeOf135, v164 := Tryz.zeroValue135 }
def laysHasR : Ren := ⟨fun | 144 => 32 | 143 => 68 | 219 => 93 | 217 => 99 | 225 => 123 | 224 => 124 | 267 => 125 | 266 => 132 | 314 => 153 | n => n, fun | 9 => 9 | 4 => 4 | 3 => 3 | 5 => 5 | 46 => 159 | 146 => 177 | 51 => 174 | n => n, fun | 1 => 1 | n => n⟩
set_option maxRecDepth 100000 in
theorem laysHas : Lays.n144 Tryz.prog laysHasR := { mixed := rfl, f143 := Tryz.func68, f144 := Tryz.func32, f217 := Tryz.func99, f219 := Tryz.func93, f224 := Tryz.func124, f225 := Tryz.func123, f266 := Tryz.func132, f267 := Tryz.func125, f314 := Tryz.func153, t3 := Tryz.underlying3, a3 := Tryz.isAgg3, z3 := Tryz.sizeOf3, v3 := Tryz.zeroValue3, t4 := Tryz.underlying4, a4 := Tryz.isAgg4, z4 := Tryz.sizeOf4, v4 := Tryz.zeroValue4, t5 := Tryz.underlying5, a5 := Tryz.isAgg5, z5 := Tryz.sizeOf5, v5 := Tryz.zeroValue5, t9 := Tryz.underlying9, a9 := Tryz.isAgg9, z9 := Tryz.sizeOf9, v9 := Tryz.zeroValue9, t46 := Tryz.underlying159, a46 := Tryz.isAgg159, z46 := Tryz.sizeOf159, v46 := Tryz.zeroValue159, t51 := Tryz.underlying174, a51 := Tryz.isAgg174, z51 := Tryz.sizeOf174, v51 := Tryz.zeroValue174, t146 := Tryz.underlying177, a146 := Tryz.isAgg177, z146 := Tryz.sizeOf177, v146 := Tryz.zeroValue177, g1 := by kernel_rfl }
theorem xJoin : Builder.Extra Tryz.prog laysJoinR := { sizeBuilder := by kernel_rfl, liesBuilder := by kernel_rfl, t5 := Tryz.underlying5, a5 := Tryz.isAgg5, z5 := Tryz.sizeOf5, v5 := Tryz.zeroValue5, infoByte := by kernel_rfl, cellsByte := by kernel_rfl, sizeByte := by kernel_rfl, neB5 := by decide }
/-- the words of marks. -/
def nmB (k : Nat) : ByteArray := match k with
 | 1 => ⟨#[111, 117, 116]⟩
 | 2 => ⟨#[105, 110]⟩
 | 3 => ⟨#[99, 104, 97, 110, 103, 101]⟩
 | 4 => ⟨#[115, 119, 97, 112]⟩
 | 5 => ⟨#[98, 114, 101, 97, 107]⟩
 | 6 => ⟨#[106, 111, 105, 110]⟩
 | 7 => ⟨#[116, 117, 114, 110]⟩
 | _ => ⟨#[]⟩
def nmL : List ByteArray := [nmB 0, nmB 1, nmB 2, nmB 3, nmB 4, nmB 5, nmB 6, nmB 7]
def IfV (v : Value) : Prop := v = .nilIface ∨ ∃ te pe, v = .iface te pe
/-- what the package variables hold that the library's functions look at. -/
def glob (w : World) : Prop := Lib.TabIs Tryz.prog w "internal/strconv.uint64pow10" .u64 Lib.pow10Tab ∧ (∃ ev, w.cell? ⟨3, 0, none⟩ = some ev ∧ IfV ev) ∧ (∃ ev, w.cell? ⟨4, 0, none⟩ = some ev ∧ IfV ev) ∧ (∃ m, w.cell? ⟨1, 0, none⟩ = some (.int .i64 m)) ∧ ∃ ty fz, w.heap[0]? = some (.cells (nmL.map Value.string).toArray ty fz)
theorem cell_up {w w' : World} (hb : ∀ b, b < w.heap.size → w'.heap[b]? = w.heap[b]?) {a : Addr} {v : Value} (h : w.cell? a = some v) : w'.cell? a = some v := by
 unfold World.cell? at h ⊢
 cases hh : w.heap[a.block]? with
 | none => rw [hh] at h; cases h
 | some o =>
  rw [hb _ (Array.getElem?_eq_some_iff.1 hh).1]
  exact h
theorem glob_ok : GlOk glob := fun w w' hs hb ⟨h1, ⟨ev, h2, h3⟩, ⟨er, h4, h5⟩, ⟨m, h6⟩, ty, fz, h7⟩ => by
 refine ⟨?_, ⟨ev, cell_up hb h2, h3⟩, ⟨er, cell_up hb h4, h5⟩, ⟨m, cell_up hb h6⟩, ty, fz, (hb 0 (Array.getElem?_eq_some_iff.1 h7).1).trans h7⟩
 unfold Lib.TabIs World.var? at h1 ⊢
 cases hg : Tryz.prog.globalNamed "internal/strconv.uint64pow10" with
 | none => rw [hg] at h1; cases h1
 | some g =>
  rw [hg] at h1
  simp only [Option.bind_some] at h1 ⊢
  cases hh : w.heap[g]? with
  | none => rw [hh] at h1; cases h1
  | some o =>
   rw [hb _ (Array.getElem?_eq_some_iff.1 hh).1]
   exact h1
theorem grow_below (w : World) (k : Nat) (os : Array Obj) : Below w.heap.size w (grow (w.drewN k) os) :=
 ⟨rfl, rfl, rfl, by simp [grow, World.drewN], fun b hb => by
  show (w.heap ++ os)[b]? = w.heap[b]?
  rw [Array.getElem?_append_left hb]⟩
theorem itoa_s (n : Int) (h0 : -9223372036854775808 ≤ n) (h1 : n ≤ 9223372036854775807) : CtrK glob Tryz.prog 29 [(.v (.int .i64 n))] (fun rr => rr = ⟨(.v (.string (⟨(Lib.itoa n).toArray⟩))), []⟩) :=
 CtrK.vals (xs := [.int .i64 n]) Tryz.func29 rfl rfl (u := .string ⟨(Lib.itoa n).toArray⟩) (fun g => rfl) fun w hg => (Any.strconv_Itoa laysItoa n h0 h1 w hg.1).mono fun e w' ⟨he, k, os, hw⟩ => ⟨he, by rw [hw]; exact grow_below w k os⟩
theorem split_s (s : ByteArray) (c : UInt8) (hs : s.size < 4294967281) : CtrK glob Tryz.prog 31 [(.v (.string (s))), (.v (.string (⟨#[c]⟩)))] (fun rr => rr = ⟨.row 0, [.own 9 1 ((Lib.splitB ⟨#[c]⟩ 0 (Lib.countB s ⟨#[c]⟩) s).map fun x => [.v (.string x)])]⟩) :=
 CtrK.strs (xs := [.string s, .string ⟨#[c]⟩]) Tryz.func31 rfl rfl fun w hg => by
  obtain ⟨m, hm⟩ := hg.2.2.2.1
  have hlen := Lib.splitB_all ⟨#[c]⟩ (Nat.le_refl 1) 0 _ s rfl
  have hsz := Lib.countB_le ⟨#[c]⟩ (Nat.le_refl 1) s.size s (Nat.le_refl _)
  refine (Any.strings_Split laysSplit (by kernel_rfl) s ⟨#[c]⟩ m w hs hm (Nat.le_refl 1)).mono fun e w' ⟨he, hw⟩ => ⟨_, he, ?_, ?_⟩
  ·rw [hw]; exact Below.alloc (Below.refl _ _) (Nat.le_refl _) _
  ·generalize Lib.splitB ⟨#[c]⟩ 0 (Lib.countB s ⟨#[c]⟩) s = l at hlen hw ⊢
   rw [hw]
   refine ⟨by simp, .inr ⟨w.heap.size, _, (l.map Value.string).toArray, by rw [hlen], Nat.le_refl _, heap_alloc_new w _, by omega, by simp only [maxLen]; omega, by simp; omega, by simp [List.take_of_length_le]⟩⟩
theorem trim_s (s p : ByteArray) : Ctr Tryz.prog 70 [(.v (.string (s))), (.v (.string (p)))] (fun rr => rr = ⟨(.v (.string (⟨(Lib.trimPrefix s.data.toList p.data.toList).toArray⟩))), []⟩) :=
 Ctr.vals (xs := [.string s, .string p]) Tryz.func70 rfl rfl (u := .string ⟨(Lib.trimPrefix s.data.toList p.data.toList).toArray⟩) (fun g => rfl) fun w => (Any.strings_TrimPrefix laysTrim s p w).mono fun e w' ⟨he, hw⟩ => ⟨he, by rw [hw]; exact Below.refl _ _⟩
theorem eS_cell {μ : Mu} {w : World} (hμ : ∀ f, (μ f).In w) {b : Bool} {A : Option Addr} {l : List ByteArray} (h : RdE μ (l.map fun x => [D.v (.string x)]) b A 1 0) (j : Nat) (x : ByteArray) (hj : l[j]? = some x) : ∃ ad, A = some ad ∧ w.cell? (ad.add j) = some (.string x) := by
 obtain ⟨-, ad, h1, h2⟩ := h.get j [D.v (.string x)] (by rw [List.getElem?_map, hj]; rfl)
 refine ⟨ad, h1, ?_⟩
 simp only [RdC] at h2
 obtain ⟨⟨y, h3, h4⟩, -⟩ := h2
 simp only [Rd] at h4
 rw [h4.1] at h3
 have := (hμ b).cell h3
 rw [show ((0 + j) * 1) = j by omega, Addr.add_add, Nat.add_zero] at this
 exact this
theorem addr_none {w : World} {ad : Addr} {v : Value} (h : w.cell? (ad.add 0) = some v) : ad.spot = none ∧ ad.block < w.heap.size := by
 have e : ad.add 0 = ad := by unfold Addr.add; rfl
 rw [e] at h
 unfold World.cell? at h
 cases hh : w.heap[ad.block]? with
 | none => rw [hh] at h; cases h
 | some o =>
  rw [hh] at h
  refine ⟨?_, (Array.getElem?_eq_some_iff.1 hh).1⟩
  cases hs : ad.spot with
  | none => rfl
  | some q =>
   rw [hs] at h
   split at h <;> simp_all
theorem addr_at (bk o j : Nat) : (⟨bk, o, none⟩ : Addr).add j = ⟨bk, o + j, none⟩ := by
 unfold Addr.add
 split <;> simp_all
theorem join_s (b : Bool) (ws : List ByteArray) (sep : ByteArray) (hN : ws.length ≤ 1000000) (hlen : (Lib.join (ws.map (·.data.toList)) sep.data.toList).length ≤ 140737488355328) :
  Ctr Tryz.prog 30 [.sl b 1 (ws.map fun x => [.v (.string x)]), (.v (.string (sep)))] (fun rr => rr = ⟨(.v (.string (⟨(Lib.join (ws.map (·.data.toList)) sep.data.toList).toArray⟩))), []⟩) := by
 refine ⟨⟨_, Tryz.func30, rfl, rfl⟩, fun w kp hk vs hr => ?_⟩
 have hμ : ∀ f, (muOf kp w f).In w := fun f => by
  cases f
  ·exact fun b o h => h
  ·exact hk
 match vs, hr with
 | [u, v], hr =>
  simp only [rels, rel] at hr
  obtain ⟨hu, hv, -⟩ := hr
  simp only [Rd] at hu
  obtain ⟨A, c, rfl, hc, hE⟩ := hu
  subst hv
  rw [List.length_map] at hc ⊢
  have fin : (Calls Tryz.prog 30 #[.slice A ws.length c, .string sep] w fun e w' => e = .returned (.string ⟨(Lib.join (ws.map (·.data.toList)) sep.data.toList).toArray⟩) ∧ Below w.heap.size w w') := by
   cases hws : ws with
   | nil =>
    refine (Any.strings_Join_none laysJoin xJoin A c sep w).mono fun e w' ⟨he, hw⟩ => ⟨he, by rw [hw]; exact Below.refl _ _⟩
   | cons x xs =>
    obtain ⟨ad, rfl, h0⟩ := eS_cell hμ hE 0 x (by rw [hws]; rfl)
    obtain ⟨hs, hb⟩ := addr_none h0
    obtain ⟨bk, o, sp⟩ := ad
    simp only at hs hb
    subst hs
    rw [← hws]
    refine Any.strings_Join laysJoin xJoin bk o c ws sep w (fun j y hj => ?_) hb (by omega) hc hlen
    obtain ⟨ad', h1, h2⟩ := eS_cell hμ hE j y hj
    cases h1
    rw [addr_at] at h2
    exact h2
  refine fin.mono fun e w' ⟨he, hw⟩ => ⟨_, _, he, rfl, RetOk.plain hk hw (fun g => rfl)⟩
theorem atoi_ok (s : ByteArray) (hlim : s.size ≤ 281474976710656) (v : Int) (h : Lib.atoiAll s.data.toList = .ok v) : CtrK glob Tryz.prog 69 [(.v (.string (s)))] (fun rr => rr = ⟨.tup [(.v (.int .i64 v)), .v .nilIface], []⟩) :=
 CtrK.vals (xs := [.string s]) Tryz.func69 rfl rfl (u := .tuple #[.int .i64 v, .nilIface]) (fun g => by
  simp only [rel]
  exact ⟨_, rfl, rels_same [.int .i64 v, .nilIface]⟩) fun w hg => (Any.strconv_Atoi_ok laysAtoi s (by omega) v h w).mono fun e w' ⟨he, hw⟩ => ⟨he, by
   rcases hw with rfl | ⟨t, rfl⟩
   ·exact Below.refl _ _
   ·exact Lib.bytesWorld_below _ _ _⟩
theorem atoi_bad (s : ByteArray) (hlim : s.size ≤ 281474976710656) (h : ∀ v, Lib.atoiAll s.data.toList ≠ .ok v) : CtrK glob Tryz.prog 69 [(.v (.string (s)))] (fun rr => ∃ n t p, rr = ⟨.tup [(.v (.int .i64 n)), .v (.iface t p)], []⟩) :=
 ⟨⟨_, Tryz.func69, rfl, rfl⟩, fun w kp hk hg vs hr => by
  have hr' : rels (gh0 kp w) ([Value.string s].map .v) vs := hr
  rw [rels_vs hr']
  obtain ⟨ev, he, hev⟩ := hg.2.1
  obtain ⟨er, hr, her⟩ := hg.2.2.1
  rcases h1 : Lib.atoiAll s.data.toList with v | _ | _
  ·exact absurd h1 (h v)
  ·refine (Any.strconv_Atoi_syntax laysAtoi s hlim h1 ev _ ?_ hev).mono ?_
   ·exact he
   rintro e W1 ⟨N, rfl, -, -, hb⟩
   exact ⟨_, _, rfl, ⟨_, _, _, rfl⟩, RetOk.plain hk hb (fun g => by
    simp only [rel]
    exact ⟨_, rfl, rels_same [.int .i64 0, .iface _ (.pointer (some ⟨N, 0, none⟩))]⟩)⟩
  ·refine (Any.strconv_Atoi_range laysAtoi s hlim h1 er _ ?_ her).mono ?_
   ·exact hr
   rintro e W1 ⟨N, rfl, -, -, hb⟩
   exact ⟨_, _, rfl, ⟨_, _, _, rfl⟩, RetOk.plain hk hb (fun g => by
    simp only [rel]
    exact ⟨_, rfl, rels_same [.int .i64 _, .iface _ (.pointer (some ⟨N, 0, none⟩))]⟩)⟩⟩
theorem has_s (s : ByteArray) (c : UInt8) : Ctr Tryz.prog 32 [(.v (.string (s))), (.v (.string (⟨#[c]⟩)))] (fun rr => rr = ⟨(.v (.bool (decide (0 ≤ Lib.indexByte s.data.toList c)))), []⟩) :=
 Ctr.vals (xs := [.string s, .string ⟨#[c]⟩]) Tryz.func32 rfl rfl (u := .bool (decide (0 ≤ Lib.indexByte s.data.toList c))) (fun g => rfl) fun w => (Any.strings_Contains_one laysHas s c w).mono fun e w' ⟨he, hw⟩ => ⟨he, by rw [hw]; exact Below.refl _ _⟩
end Go.Proofs.YtmbemlmkfoblhaaGreatDoor

