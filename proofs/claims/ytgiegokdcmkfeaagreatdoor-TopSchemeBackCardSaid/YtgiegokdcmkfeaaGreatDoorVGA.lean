/-
 Chapter 6: what the library's functions on texts and numbers do, as contracts.
-/
import Derived.Test.YtgiegokdcmkfeaaGreatDoorVB6
import Derived.Test.YtgiegokdcmkfeaaGreatDoorVGlob
import Derived.Test.YtgiegokdcmkfeaaGreatDoorVCut
import Derived.Test.YtgiegokdcmkfeaaGreatDoorVNum
import Derived.Shelf.Strconv.Itoa3
import Derived.Shelf.Strconv.AtoiAll
import Derived.Shelf.Small.Strs
import Derived.Shelf.Strings.Split
import Derived.Shelf.Strings.Search3
import Derived.Shelf.Strings.Prefix
import Derived.Shelf.Strings.OnBuilder
import Derived.Lib.LaidTab
import Derived.WalkKit
set_option linter.unusedSimpArgs false
set_option linter.unusedVariables false
namespace Go.Proofs.YtgiegokdcmkfeaaGreatDoor
open Go Go.Vx Go.Shelf Go.RowKit Go.Sort
def laysItoaR : Ren := ⟨fun | 171 => 32 | 243 => 71 | 246 => 98 | 283 => 121 | 284 => 122 | 285 => 123 | 286 => 124 | 129 => 143 | 317 => 142 | 318 => 144 | 319 => 145 | 320 => 146 | 337 => 152 | 338 => 153 | n => n, fun | 3 => 3 | 9 => 9 | 2 => 2 | 4 => 4 | 171 => 185 | 0 => 0 | 53 => 186 | 37 => 82 | 5 => 5 | 173 => 189 | 212 => 205 | 51 => 206 | 20 => 20 | 213 => 207 | 46 => 192 | 232 => 226 | 233 => 227 | n => n, fun | 17 => 1 | 18 => 6 | 19 => 7 | n => n⟩
set_option maxRecDepth 100000 in
theorem laysItoa : LaysM.n171 Tryz.prog laysItoaR := { mixed := rfl, f129 := Tryz.func143, f171 := Tryz.func32, f243 := Tryz.func71, f246 := Tryz.func98, f283 := Tryz.func121, f284 := Tryz.func122, f285 := Tryz.func123, f286 := Tryz.func124, f317 := Tryz.func142, f318 := Tryz.func144, f319 := Tryz.func145, f320 := Tryz.func146, f337 := Tryz.func152, f338 := Tryz.func153, t0 := Tryz.underlying0, a0 := Tryz.isAgg0, z0 := Tryz.sizeOf0, v0 := Tryz.zeroValue0, t2 := Tryz.underlying2, a2 := Tryz.isAgg2, z2 := Tryz.sizeOf2, v2 := Tryz.zeroValue2, t3 := Tryz.underlying3, a3 := Tryz.isAgg3, z3 := Tryz.sizeOf3, v3 := Tryz.zeroValue3, t4 := Tryz.underlying4, a4 := Tryz.isAgg4, z4 := Tryz.sizeOf4, v4 := Tryz.zeroValue4, t5 := Tryz.underlying5, a5 := Tryz.isAgg5, z5 := Tryz.sizeOf5, v5 := Tryz.zeroValue5, t9 := Tryz.underlying9, a9 := Tryz.isAgg9, z9 := Tryz.sizeOf9, v9 := Tryz.zeroValue9, t20 := Tryz.underlying20, a20 := Tryz.isAgg20, z20 := Tryz.sizeOf20, v20 := Tryz.zeroValue20, t37 := Tryz.underlying82, a37 := Tryz.isAgg82, z37 := Tryz.sizeOf82, v37 := Tryz.zeroValue82, t46 := Tryz.underlying192, a46 := Tryz.isAgg192, z46 := Tryz.sizeOf192, v46 := Tryz.zeroValue192, t51 := Tryz.underlying206, a51 := Tryz.isAgg206, z51 := Tryz.sizeOf206, v51 := Tryz.zeroValue206, t53 := Tryz.underlying186, a53 := Tryz.isAgg186, z53 := Tryz.sizeOf186, v53 := Tryz.zeroValue186, t171 := Tryz.underlying185, a171 := Tryz.isAgg185, z171 := Tryz.sizeOf185, v171 := Tryz.zeroValue185, t173 := Tryz.underlying189, a173 := Tryz.isAgg189, z173 := Tryz.sizeOf189, v173 := Tryz.zeroValue189, t212 := Tryz.underlying205, a212 := Tryz.isAgg205, z212 := Tryz.sizeOf205, v212 := Tryz.zeroValue205, t213 := Tryz.underlying207, a213 := Tryz.isAgg207, z213 := Tryz.sizeOf207, t232 := Tryz.underlying226, a232 := Tryz.isAgg226, z232 := Tryz.sizeOf226, v232 := Tryz.zeroValue226, t233 := Tryz.underlying227, a233 := Tryz.isAgg227, z233 := Tryz.sizeOf227, v233 := Tryz.zeroValue227, g17 := by kernel_rfl, g18 := by kernel_rfl, g19 := by kernel_rfl, i0 := by kernel_rfl, i2 := by kernel_rfl, i3 := by kernel_rfl, i4 := by kernel_rfl, i5 := by kernel_rfl, i9 := by kernel_rfl, i20 := by kernel_rfl, i37 := by kernel_rfl, i46 := by kernel_rfl, i51 := by kernel_rfl, i53 := by kernel_rfl, i171 := by kernel_rfl, i173 := by kernel_rfl, i212 := by kernel_rfl, i232 := by kernel_rfl, i233 := by kernel_rfl, m17 := by kernel_rfl, m18 := by kernel_rfl, m19 := by kernel_rfl }
def laysIdxR : Ren := ⟨fun | 137 => 75 | 217 => 100 | 266 => 126 | n => n, fun | 9 => 9 | 5 => 5 | 3 => 3 | n => n, fun n => n⟩
set_option maxRecDepth 100000 in
theorem laysIdx : Lays.n137 Tryz.prog laysIdxR := { mixed := rfl, f137 := Tryz.func75, f217 := Tryz.func100, f266 := Tryz.func126, t3 := Tryz.underlying3, a3 := Tryz.isAgg3, z3 := Tryz.sizeOf3, v3 := Tryz.zeroValue3, t5 := Tryz.underlying5, a5 := Tryz.isAgg5, z5 := Tryz.sizeOf5, v5 := Tryz.zeroValue5, t9 := Tryz.underlying9, a9 := Tryz.isAgg9, z9 := Tryz.sizeOf9, v9 := Tryz.zeroValue9 }
def laysIndR : Ren := ⟨fun | 143 => 109 | 219 => 102 | 217 => 100 | 225 => 127 | 224 => 128 | 267 => 129 | 266 => 126 | 314 => 147 | n => n, fun | 9 => 9 | 3 => 3 | 4 => 4 | 5 => 5 | 46 => 192 | 146 => 209 | 51 => 206 | n => n, fun | 1 => 0 | n => n⟩
set_option maxRecDepth 100000 in
theorem laysInd : Lays.n143 Tryz.prog laysIndR := { mixed := rfl, f143 := Tryz.func109, f217 := Tryz.func100, f219 := Tryz.func102, f224 := Tryz.func128, f225 := Tryz.func127, f266 := Tryz.func126, f267 := Tryz.func129, f314 := Tryz.func147, t3 := Tryz.underlying3, a3 := Tryz.isAgg3, z3 := Tryz.sizeOf3, v3 := Tryz.zeroValue3, t4 := Tryz.underlying4, a4 := Tryz.isAgg4, z4 := Tryz.sizeOf4, v4 := Tryz.zeroValue4, t5 := Tryz.underlying5, a5 := Tryz.isAgg5, z5 := Tryz.sizeOf5, v5 := Tryz.zeroValue5, t9 := Tryz.underlying9, a9 := Tryz.isAgg9, z9 := Tryz.sizeOf9, v9 := Tryz.zeroValue9, t46 := Tryz.underlying192, a46 := Tryz.isAgg192, z46 := Tryz.sizeOf192, v46 := Tryz.zeroValue192, t51 := Tryz.underlying206, a51 := Tryz.isAgg206, z51 := Tryz.sizeOf206, v51 := Tryz.zeroValue206, t146 := Tryz.underlying209, a146 := Tryz.isAgg209, z146 := Tryz.sizeOf209, v146 := Tryz.zeroValue209, g1 := by kernel_rfl }
def laysSplitR : Ren := ⟨fun | 146 => 43 | 221 => 83 | 268 => 107 | 138 => 108 | 143 => 109 | 195 => 138 | 197 => 137 | 218 => 139 | 219 => 102 | 260 => 151 | 217 => 100 | 225 => 127 | 224 => 128 | 267 => 129 | 266 => 126 | 314 => 147 | n => n, fun | 9 => 9 | 31 => 93 | 3 => 3 | 4 => 4 | 0 => 0 | 105 => 199 | 21 => 21 | 5 => 5 | 46 => 192 | 119 => 222 | 139 => 225 | 138 => 224 | 146 => 209 | 51 => 206 | n => n, fun | 1 => 0 | 3 => 4 | 4 => 5 | n => n⟩
set_option maxRecDepth 100000 in
theorem laysSplit : Lays.n146 Tryz.prog laysSplitR := { mixed := rfl, f138 := Tryz.func108, f143 := Tryz.func109, f146 := Tryz.func43, f195 := Tryz.func138, f197 := Tryz.func137, f217 := Tryz.func100, f218 := Tryz.func139, f219 := Tryz.func102, f221 := Tryz.func83, f224 := Tryz.func128, f225 := Tryz.func127, f260 := Tryz.func151, f266 := Tryz.func126, f267 := Tryz.func129, f268 := Tryz.func107, f314 := Tryz.func147, t0 := Tryz.underlying0, a0 := Tryz.isAgg0, z0 := Tryz.sizeOf0, v0 := Tryz.zeroValue0, t3 := Tryz.underlying3, a3 := Tryz.isAgg3, z3 := Tryz.sizeOf3, v3 := Tryz.zeroValue3, t4 := Tryz.underlying4, a4 := Tryz.isAgg4, z4 := Tryz.sizeOf4, v4 := Tryz.zeroValue4, t5 := Tryz.underlying5, a5 := Tryz.isAgg5, z5 := Tryz.sizeOf5, v5 := Tryz.zeroValue5, t9 := Tryz.underlying9, a9 := Tryz.isAgg9, z9 := Tryz.sizeOf9, v9 := Tryz.zeroValue9, t21 := Tryz.underlying21, a21 := Tryz.isAgg21, z21 := Tryz.sizeOf21, v21 := Tryz.zeroValue21, t31 := Tryz.underlying93, a31 := Tryz.isAgg93, z31 := Tryz.sizeOf93, v31 := Tryz.zeroValue93, t46 := Tryz.underlying192, a46 := Tryz.isAgg192, z46 := Tryz.sizeOf192, v46 := Tryz.zeroValue192, t51 := Tryz.underlying206, a51 := Tryz.isAgg206, z51 := Tryz.sizeOf206, v51 := Tryz.zeroValue206, t105 := Tryz.underlying199, a105 := Tryz.isAgg199, z105 := Tryz.sizeOf199, v105 := Tryz.zeroValue199, t119 := Tryz.underlying222, a119 := Tryz.isAgg222, z119 := Tryz.sizeOf222, t138 := Tryz.underlying224, a138 := Tryz.isAgg224, z138 := Tryz.sizeOf224, v138 := Tryz.zeroValue224, t139 := Tryz.underlying225, a139 := Tryz.isAgg225, z139 := Tryz.sizeOf225, v139 := Tryz.zeroValue225, t146 := Tryz.underlying209, a146 := Tryz.isAgg209, z146 := Tryz.sizeOf209, v146 := Tryz.zeroValue209, g1 := by kernel_rfl, g3 := by kernel_rfl, g4 := by kernel_rfl }
def laysAtoiR : Ren := ⟨fun | 172 => 78 | 244 => 103 | 245 => 104 | 247 => 130 | 279 => 131 | 280 => 132 | 281 => 133 | 282 => 134 | 287 => 148 | 316 => 149 | 171 => 32 | 205 => 150 | 321 => 154 | 322 => 155 | 243 => 71 | 246 => 98 | 283 => 121 | 284 => 122 | 285 => 123 | 286 => 124 | 129 => 143 | 317 => 142 | 318 => 144 | 319 => 145 | 320 => 146 | 337 => 152 | 338 => 153 | n => n, fun | 9 => 9 | 3 => 3 | 75 => 86 | 76 => 87 | 4 => 4 | 5 => 5 | 167 => 193 | 37 => 82 | 0 => 0 | 85 => 194 | 2 => 2 | 168 => 196 | 53 => 186 | 175 => 211 | 46 => 192 | 210 => 215 | 127 => 150 | 145 => 221 | 143 => 219 | 21 => 21 | 171 => 185 | 173 => 189 | 212 => 205 | 51 => 206 | 20 => 20 | 213 => 207 | 232 => 226 | 233 => 227 | 80 => 95 | n => n, fun | 15 => 2 | 16 => 3 | 17 => 1 | 18 => 6 | 19 => 7 | n => n⟩
set_option maxRecDepth 100000 in
theorem laysAtoi : LaysC.n172 Tryz.prog laysAtoiR := { mixed := rfl, f129 := Tryz.func143, f171 := Tryz.func32, f172 := Tryz.func78, f205 := Tryz.func150, f243 := Tryz.func71, f244 := Tryz.func103, f245 := Tryz.func104, f246 := Tryz.func98, f247 := Tryz.func130, f279 := Tryz.func131, f280 := Tryz.func132, f281 := Tryz.func133, f282 := Tryz.func134, f283 := Tryz.func121, f284 := Tryz.func122, f285 := Tryz.func123, f286 := Tryz.func124, f287 := Tryz.func148, f316 := Tryz.func149, f317 := Tryz.func142, f318 := Tryz.func144, f319 := Tryz.func145, f320 := Tryz.func146, f321 := Tryz.func154, f322 := Tryz.func155, f337 := Tryz.func152, f338 := Tryz.func153, t0 := Tryz.underlying0, a0 := Tryz.isAgg0, z0 := Tryz.sizeOf0, v0 := Tryz.zeroValue0, t2 := Tryz.underlying2, a2 := Tryz.isAgg2, z2 := Tryz.sizeOf2, v2 := Tryz.zeroValue2, t3 := Tryz.underlying3, a3 := Tryz.isAgg3, z3 := Tryz.sizeOf3, v3 := Tryz.zeroValue3, t4 := Tryz.underlying4, a4 := Tryz.isAgg4, z4 := Tryz.sizeOf4, v4 := Tryz.zeroValue4, t5 := Tryz.underlying5, a5 := Tryz.isAgg5, z5 := Tryz.sizeOf5, v5 := Tryz.zeroValue5, t9 := Tryz.underlying9, a9 := Tryz.isAgg9, z9 := Tryz.sizeOf9, v9 := Tryz.zeroValue9, t20 := Tryz.underlying20, a20 := Tryz.isAgg20, z20 := Tryz.sizeOf20, v20 := Tryz.zeroValue20, t21 := Tryz.underlying21, a21 := Tryz.isAgg21, z21 := Tryz.sizeOf21, v21 := Tryz.zeroValue21, t37 := Tryz.underlying82, a37 := Tryz.isAgg82, z37 := Tryz.sizeOf82, v37 := Tryz.zeroValue82, t46 := Tryz.underlying192, a46 := Tryz.isAgg192, z46 := Tryz.sizeOf192, v46 := Tryz.zeroValue192, t51 := Tryz.underlying206, a51 := Tryz.isAgg206, z51 := Tryz.sizeOf206, v51 := Tryz.zeroValue206, t53 := Tryz.underlying186, a53 := Tryz.isAgg186, z53 := Tryz.sizeOf186, v53 := Tryz.zeroValue186, t75 := Tryz.underlying86, a75 := Tryz.isAgg86, z75 := Tryz.sizeOf86, v75 := Tryz.zeroValue86, t76 := Tryz.underlying87, a76 := Tryz.isAgg87, z76 := Tryz.sizeOf87, v76 := Tryz.zeroValue87, t85 := Tryz.underlying194, a85 := Tryz.isAgg194, z85 := Tryz.sizeOf194, v85 := Tryz.zeroValue194, t127 := Tryz.underlying150, a127 := Tryz.isAgg150, z127 := Tryz.sizeOf150, v127 := Tryz.zeroValue150, t143 := Tryz.underlying219, a143 := Tryz.isAgg219, z143 := Tryz.sizeOf219, v143 := Tryz.zeroValue219, t145 := Tryz.underlying221, a145 := Tryz.isAgg221, z145 := Tryz.sizeOf221, v145 := Tryz.zeroValue221, t167 := Tryz.underlying193, a167 := Tryz.isAgg193, z167 := Tryz.sizeOf193, v167 := Tryz.zeroValue193, t168 := Tryz.underlying196, a168 := Tryz.isAgg196, z168 := Tryz.sizeOf196, v168 := Tryz.zeroValue196, t171 := Tryz.underlying185, a171 := Tryz.isAgg185, z171 := Tryz.sizeOf185, v171 := Tryz.zeroValue185, t173 := Tryz.underlying189, a173 := Tryz.isAgg189, z173 := Tryz.sizeOf189, v173 := Tryz.zeroValue189, t175 := Tryz.underlying211, a175 := Tryz.isAgg211, z175 := Tryz.sizeOf211, v175 := Tryz.zeroValue211, t210 := Tryz.underlying215, a210 := Tryz.isAgg215, z210 := Tryz.sizeOf215, v210 := Tryz.zeroValue215, t212 := Tryz.underlying205, a212 := Tryz.isAgg205, z212 := Tryz.sizeOf205, v212 := Tryz.zeroValue205, t213 := Tryz.underlying207, a213 := Tryz.isAgg207, z213 := Tryz.sizeOf207, t232 := Tryz.underlying226, a232 := Tryz.isAgg226, z232 := Tryz.sizeOf226, v232 := Tryz.zeroValue226, t233 := Tryz.underlying227, a233 := Tryz.isAgg227, z233 := Tryz.sizeOf227, v233 := Tryz.zeroValue227, g15 := by kernel_rfl, g16 := by kernel_rfl, g17 := by kernel_rfl, g18 := by kernel_rfl, g19 := by kernel_rfl, t80 := Tryz.underlying95, a80 := Tryz.isAgg95, z80 := Tryz.sizeOf95, v80 := Tryz.zeroValue95, i0 := by kernel_rfl, i2 := by kernel_rfl, i3 := by kernel_rfl, i4 := by kernel_rfl, i5 := by kernel_rfl, i9 := by kernel_rfl, i20 := by kernel_rfl, i21 := by kernel_rfl, i37 := by kernel_rfl, i46 := by kernel_rfl, i51 := by kernel_rfl, i53 := by kernel_rfl, i75 := by kernel_rfl, i76 := by kernel_rfl, i80 := by kernel_rfl, i85 := by kernel_rfl, i127 := by kernel_rfl, i143 := by kernel_rfl, i145 := by kernel_rfl, i167 := by kernel_rfl, i168 := by kernel_rfl, i171 := by kernel_rfl, i173 := by kernel_rfl, i175 := by kernel_rfl, i210 := by kernel_rfl, i212 := by kernel_rfl, i232 := by kernel_rfl, i233 := by kernel_rfl, m15 := by kernel_rfl, m16 := by kernel_rfl, m17 := by kernel_rfl, m18 := by kernel_rfl, m19 := by kernel_rfl, c0 := by kernel_rfl, c2 := by kernel_rfl, c3 := by kernel_rfl, c4 := by kernel_rfl, c5 := by kernel_rfl, c9 := by kernel_rfl, c20 := by kernel_rfl, c21 := by kernel_rfl, c37 := by kernel_rfl, c46 := by kernel_rfl, c51 := by kernel_rfl, c53 := by kernel_rfl, c75 := by kernel_rfl, c76 := by kernel_rfl, c80 := by kernel_rfl, c85 := by kernel_rfl, c127 := by kernel_rfl, c143 := by kernel_rfl, c145 := by kernel_rfl, c167 := by kernel_rfl, c168 := by kernel_rfl, c171 := by kernel_rfl, c173 := by kernel_rfl, c175 := by kernel_rfl, c210 := by kernel_rfl, c212 := by kernel_rfl, c213 := by kernel_rfl, c232 := by kernel_rfl, c233 := by kernel_rfl }
def laysTrimR : Ren := ⟨fun | 101 => 79 | 208 => 105 | 206 => 135 | n => n, fun | 9 => 9 | 4 => 4 | 3 => 3 | n => n, fun n => n⟩
set_option maxRecDepth 100000 in
theorem laysTrim : Lays.n101 Tryz.prog laysTrimR := { mixed := rfl, f101 := Tryz.func79, f206 := Tryz.func135, f208 := Tryz.func105, t3 := Tryz.underlying3, a3 := Tryz.isAgg3, z3 := Tryz.sizeOf3, v3 := Tryz.zeroValue3, t4 := Tryz.underlying4, a4 := Tryz.isAgg4, z4 := Tryz.sizeOf4, v4 := Tryz.zeroValue4, t9 := Tryz.underlying9, a9 := Tryz.isAgg9, z9 := Tryz.sizeOf9, v9 := Tryz.zeroValue9 }
def laysJoinR : Ren := ⟨fun | 156 => 34 | 165 => 73 | 166 => 31 | 169 => 35 | 240 => 70 | 241 => 99 | 276 => 97 | 277 => 125 | n => n, fun | 31 => 93 | 9 => 9 | 3 => 3 | 4 => 4 | 0 => 0 | 20 => 20 | 72 => 84 | 76 => 87 | 70 => 81 | 37 => 82 | 75 => 86 | 127 => 150 | 164 => 170 | 5 => 5 | 80 => 95 | n => n, fun n => n⟩
set_option maxRecDepth 100000 in
theorem laysJoin : Lays.n156 Tryz.prog laysJoinR := { mixed := rfl, f156 := Tryz.func34, f165 := Tryz.func73, f166 := Tryz.func31, f169 := Tryz.func35, f240 := Tryz.func70, f241 := Tryz.func99, f276 := Tryz.func97, f277 := Tryz.func125, t0 := Tryz.underlying0, a0 := Tryz.isAgg0, z0 := Tryz.sizeOf0, v0 := Tryz.zeroValue0, t3 := Tryz.underlying3, a3 := Tryz.isAgg3, z3 := Tryz.sizeOf3, v3 := Tryz.zeroValue3, t4 := Tryz.underlying4, a4 := Tryz.isAgg4, z4 := Tryz.sizeOf4, v4 := Tryz.zeroValue4, t9 := Tryz.underlying9, a9 := Tryz.isAgg9, z9 := Tryz.sizeOf9, v9 := Tryz.zeroValue9, t20 := Tryz.underlying20, a20 := Tryz.isAgg20, z20 := Tryz.sizeOf20, v20 := Tryz.zeroValue20, t31 := Tryz.underlying93, a31 := Tryz.isAgg93, z31 := Tryz.sizeOf93, v31 := Tryz.zeroValue93, t37 := Tryz.underlying82, a37 := Tryz.isAgg82, z37 := Tryz.sizeOf82, v37 := Tryz.zeroValue82, t70 := Tryz.underlying81, a70 := Tryz.isAgg81, z70 := Tryz.sizeOf81, v70 := Tryz.zeroValue81, t72 := Tryz.underlying84, a72 := Tryz.isAgg84, z72 := Tryz.sizeOf84, v72 := Tryz.zeroValue84, t75 := Tryz.underlying86, a75 := Tryz.isAgg86, z75 := Tryz.sizeOf86, v75 := Tryz.zeroValue86, t76 := Tryz.underlying87, a76 := Tryz.isAgg87, z76 := Tryz.sizeOf87, v76 := Tryz.zeroValue87, t127 := Tryz.underlying150, a127 := Tryz.isAgg150, z127 := Tryz.sizeOf150, v127 := Tryz.zeroValue150, t164 := Tryz.underlying170, a164 := Tryz.isAgg170, z164 := Tryz.sizeOf170, v164 := Tryz.zeroValue170 }
theorem xJoin : Builder.Extra Tryz.prog laysJoinR := { sizeBuilder := by kernel_rfl, liesBuilder := by kernel_rfl, t5 := Tryz.underlying5, a5 := Tryz.isAgg5, z5 := Tryz.sizeOf5, v5 := Tryz.zeroValue5, infoByte := by kernel_rfl, cellsByte := by kernel_rfl, sizeByte := by kernel_rfl, neB5 := by decide }
def IfV (v : Value) : Prop := v = .nilIface ∨ ∃ te pe, v = .iface te pe
/-- what the package variables hold that the library's functions look at. -/
def glob (w : World) : Prop := Lib.TabIs Tryz.prog w "internal/strconv.uint64pow10" .u64 Lib.pow10Tab ∧ (∃ ev, w.cell? ⟨2, 0, none⟩ = some ev ∧ IfV ev) ∧ (∃ ev, w.cell? ⟨3, 0, none⟩ = some ev ∧ IfV ev) ∧ ∃ m, w.cell? ⟨0, 0, none⟩ = some (.int .i64 m)
theorem cell_up {w w' : World} (hb : ∀ b, b < w.heap.size → w'.heap[b]? = w.heap[b]?) {a : Addr} {v : Value} (h : w.cell? a = some v) : w'.cell? a = some v := by
 unfold World.cell? at h ⊢
 cases hh : w.heap[a.block]? with
 | none => rw [hh] at h; cases h
 | some o =>
  rw [hb _ (Array.getElem?_eq_some_iff.1 hh).1]
  exact h
theorem glob_ok : GlOk glob := fun w w' hs hb ⟨h1, ⟨ev, h2, h3⟩, ⟨er, h4, h5⟩, m, h6⟩ => by
 refine ⟨?_, ⟨ev, cell_up hb h2, h3⟩, ⟨er, cell_up hb h4, h5⟩, m, cell_up hb h6⟩
 unfold Lib.TabIs World.var? at h1 ⊢
 cases hg : Tryz.prog.globalNamed "internal/strconv.uint64pow10" with
 | none => rw [hg] at h1; cases h1
 | some g =>
  rw [hg] at h1
  simp only [Option.bind_some] at h1 ⊢
  cases hh : w.heap[g]? with
  | none => rw [hh] at h1; cases h1
  | some o =>
   rw [hb _ (Array.getElem?_eq_some_iff.1 hh).1]
   exact h1
theorem grow_below (w : World) (k : Nat) (os : Array Obj) : Below w.heap.size w (grow (w.drewN k) os) :=
 ⟨rfl, rfl, rfl, by simp [grow, World.drewN], fun b hb => by
  show (w.heap ++ os)[b]? = w.heap[b]?
  rw [Array.getElem?_append_left hb]⟩
theorem itoa_s (n : Int) (h0 : -9223372036854775808 ≤ n) (h1 : n ≤ 9223372036854775807) : CtrK glob Tryz.prog 32 [(.v (.int .i64 n))] (fun rr => rr = ⟨(.v (.string (⟨(Lib.itoa n).toArray⟩))), []⟩) :=
 CtrK.vals (xs := [.int .i64 n]) Tryz.func32 rfl rfl (u := .string ⟨(Lib.itoa n).toArray⟩) (fun g => rfl) fun w hg => (Any.strconv_Itoa laysItoa n h0 h1 w hg.1).mono fun e w' ⟨he, k, os, hw⟩ => ⟨he, by rw [hw]; exact grow_below w k os⟩
theorem indexByte_s (s : ByteArray) (c : Int) : Ctr Tryz.prog 75 [(.v (.string (s))), .v (.int .u8 c)] (fun rr => rr = ⟨(.v (.int .i64 (Lib.indexByte s.data.toList c.toNat.toUInt8))), []⟩) :=
 Ctr.vals (xs := [.string s, .int .u8 c]) Tryz.func75 rfl rfl (u := .int .i64 (Lib.indexByte s.data.toList c.toNat.toUInt8)) (fun g => rfl) fun w => (Any.strings_IndexByte laysIdx s c w).mono fun e w' ⟨he, hw⟩ => ⟨he, by rw [hw]; exact Below.refl _ _⟩
theorem split_s (s : ByteArray) (c : UInt8) (hs : s.size < 4294967281) : CtrK glob Tryz.prog 43 [(.v (.string (s))), (.v (.string (⟨#[c]⟩)))] (fun rr => rr = ⟨.row 0, [.own 9 1 ((Lib.splitB ⟨#[c]⟩ 0 (Lib.countB s ⟨#[c]⟩) s).map fun x => [.v (.string x)])]⟩) :=
 CtrK.strs (xs := [.string s, .string ⟨#[c]⟩]) Tryz.func43 rfl rfl fun w hg => by
  obtain ⟨m, hm⟩ := hg.2.2.2
  have hlen := Lib.splitB_all ⟨#[c]⟩ (Nat.le_refl 1) 0 _ s rfl
  have hsz := Lib.countB_le ⟨#[c]⟩ (Nat.le_refl 1) s.size s (Nat.le_refl _)
  refine (Any.strings_Split laysSplit (by kernel_rfl) s ⟨#[c]⟩ m w hs hm (Nat.le_refl 1)).mono fun e w' ⟨he, hw⟩ => ⟨_, he, ?_, ?_⟩
  ·rw [hw]; exact Below.alloc (Below.refl _ _) (Nat.le_refl _) _
  ·generalize Lib.splitB ⟨#[c]⟩ 0 (Lib.countB s ⟨#[c]⟩) s = l at hlen hw ⊢
   rw [hw]
   refine ⟨by simp, .inr ⟨w.heap.size, _, (l.map Value.string).toArray, by rw [hlen], Nat.le_refl _, heap_alloc_new w _, by omega, by simp only [maxLen]; omega, by simp; omega, by simp [List.take_of_length_le]⟩⟩
theorem eS_cell {μ : Mu} {w : World} (hμ : ∀ f, (μ f).In w) {b : Bool} {A : Option Addr} {l : List ByteArray} (h : RdE μ (l.map fun x => [D.v (.string x)]) b A 1 0) (j : Nat) (x : ByteArray) (hj : l[j]? = some x) : ∃ ad, A = some ad ∧ w.cell? (ad.add j) = some (.string x) := by
 obtain ⟨-, ad, h1, h2⟩ := h.get j [D.v (.string x)] (by rw [List.getElem?_map, hj]; rfl)
 refine ⟨ad, h1, ?_⟩
 simp only [RdC] at h2
 obtain ⟨⟨y, h3, h4⟩, -⟩ := h2
 simp only [Rd] at h4
 rw [h4.1] at h3
 have := (hμ b).cell h3
 rw [show ((0 + j) * 1) = j by omega, Addr.add_add, Nat.add_zero] at this
 exact this
theorem addr_none {w : World} {ad : Addr} {v : Value} (h : w.cell? (ad.add 0) = some v) : ad.spot = none ∧ ad.block < w.heap.size := by
 have e : ad.add 0 = ad := by unfold Addr.add; rfl
 rw [e] at h
 unfold World.cell? at h
 cases hh : w.heap[ad.block]? with
 | none => rw [hh] at h; cases h
 | some o =>
  rw [hh] at h
  refine ⟨?_, (Array.getElem?_eq_some_iff.1 hh).1⟩
  cases hs : ad.spot with
  | none => rfl
  | some q =>
   rw [hs] at h
   split at h <;> simp_all
theorem addr_at (bk o j : Nat) : (⟨bk, o, none⟩ : Addr).add j = ⟨bk, o + j, none⟩ := by
 unfold Addr.add
 split <;> simp_all
theorem join_s (b : Bool) (ws : List ByteArray) (sep : ByteArray) (hN : ws.length ≤ 1000000) (hlen : (Lib.join (ws.map (·.data.toList)) sep.data.toList).length ≤ 140737488355328) :
  Ctr Tryz.prog 34 [.sl b 1 (ws.map fun x => [.v (.string x)]), (.v (.string (sep)))] (fun rr => rr = ⟨(.v (.string (⟨(Lib.join (ws.map (·.data.toList)) sep.data.toList).toArray⟩))), []⟩) := by
 refine ⟨⟨_, Tryz.func34, rfl, rfl⟩, fun w kp hk vs hr => ?_⟩
 have hμ : ∀ f, (muOf kp w f).In w := fun f => by
  cases f
  ·exact fun b o h => h
  ·exact hk
 match vs, hr with
 | [u, v], hr =>
  simp only [rels, rel] at hr
  obtain ⟨hu, hv, -⟩ := hr
  simp only [Rd] at hu
  obtain ⟨A, c, rfl, hc, hE⟩ := hu
  subst hv
  rw [List.length_map] at hc ⊢
  have fin : (Calls Tryz.prog 34 #[.slice A ws.length c, .string sep] w fun e w' => e = .returned (.string ⟨(Lib.join (ws.map (·.data.toList)) sep.data.toList).toArray⟩) ∧ Below w.heap.size w w') := by
   cases hws : ws with
   | nil =>
    refine (Any.strings_Join_none laysJoin xJoin A c sep w).mono fun e w' ⟨he, hw⟩ => ⟨he, by rw [hw]; exact Below.refl _ _⟩
   | cons x xs =>
    obtain ⟨ad, rfl, h0⟩ := eS_cell hμ hE 0 x (by rw [hws]; rfl)
    obtain ⟨hs, hb⟩ := addr_none h0
    obtain ⟨bk, o, sp⟩ := ad
    simp only at hs hb
    subst hs
    rw [← hws]
    refine Any.strings_Join laysJoin xJoin bk o c ws sep w (fun j y hj => ?_) hb (by omega) hc hlen
    obtain ⟨ad', h1, h2⟩ := eS_cell hμ hE j y hj
    cases h1
    rw [addr_at] at h2
    exact h2
  refine fin.mono fun e w' ⟨he, hw⟩ => ⟨_, _, he, rfl, RetOk.plain hk hw (fun g => rfl)⟩
end Go.Proofs.YtgiegokdcmkfeaaGreatDoor

