/-
 Chapter 6: what the library's functions on texts and numbers do, as contracts.
-/
import Derived.Test.YteajjcbinnjgaaaGreatDoorVB6
import Derived.Test.YteajjcbinnjgaaaGreatDoorVGlob
import Derived.Test.YteajjcbinnjgaaaGreatDoorVCut
import Derived.Test.YteajjcbinnjgaaaGreatDoorVNum
import Derived.Shelf.Strconv.Itoa3
import Derived.Shelf.Strconv.AtoiAll
import Derived.Shelf.Small.Strs
import Derived.Shelf.Strings.Split
import Derived.Shelf.Strings.Prefix
import Derived.Shelf.Strings.OnBuilder
import Derived.Lib.LaidTab
import Derived.WalkKit
import Derived.BigCall
namespace Go.Proofs.YteajjcbinnjgaaaGreatDoor
open Go Go.Vx Go.Shelf Go.RowKit Go.Sort
set_option linter.unusedSimpArgs false
set_option linter.unusedVariables false
def laysItoaR : Ren := ⟨fun | 171 => 27 | 243 => 54 | 246 => 77 | 283 => 98 | 284 => 99 | 285 => 100 | 286 => 101 | 129 => 129 | 317 => 128 | 318 => 130 | 319 => 131 | 320 => 132 | 337 => 140 | 338 => 141 | n => n, fun | 3 => 3 | 9 => 9 | 2 => 2 | 4 => 4 | 171 => 157 | 0 => 0 | 53 => 158 | 37 => 101 | 5 => 5 | 173 => 161 | 212 => 181 | 51 => 182 | 20 => 20 | 213 => 183 | 46 => 168 | 232 => 204 | 233 => 205 | n => n, fun | 17 => 1 | 18 => 6 | 19 => 7 | n => n⟩
set_option maxRecDepth 100000 in
theorem laysItoa : LaysM.n171 Tryz.prog laysItoaR := { mixed := rfl, f129 := Tryz.func129, f171 := Tryz.func27, f243 := Tryz.func54, f246 := Tryz.func77, f283 := Tryz.func98, f284 := Tryz.func99, f285 := Tryz.func100, f286 := Tryz.func101, f317 := Tryz.func128, f318 := Tryz.func130, f319 := Tryz.func131, f320 := Tryz.func132, f337 := Tryz.func140, f338 := Tryz.func141, t0 := Tryz.underlying0, a0 := Tryz.isAgg0, z0 := Tryz.sizeOf0, v0 := Tryz.zeroValue0, t2 := Tryz.underlying2, a2 := Tryz.isAgg2, z2 := Tryz.sizeOf2, v2 := Tryz.zeroValue2, t3 := Tryz.underlying3, a3 := Tryz.isAgg3, z3 := Tryz.sizeOf3, v3 := Tryz.zeroValue3, t4 := Tryz.underlying4, a4 := Tryz.isAgg4, z4 := Tryz.sizeOf4, v4 := Tryz.zeroValue4, t5 := Tryz.underlying5, a5 := Tryz.isAgg5, z5 := Tryz.sizeOf5, v5 := Tryz.zeroValue5, t9 := Tryz.underlying9, a9 := Tryz.isAgg9, z9 := Tryz.sizeOf9, v9 := Tryz.zeroValue9, t20 := Tryz.underlying20, a20 := Tryz.isAgg20, z20 := Tryz.sizeOf20, v20 := Tryz.zeroValue20, t37 := Tryz.underlying101, a37 := Tryz.isAgg101, z37 := Tryz.sizeOf101, v37 := Tryz.zeroValue101, t46 := Tryz.underlying168, a46 := Tryz.isAgg168, z46 := Tryz.sizeOf168, v46 := Tryz.zeroValue168, t51 := Tryz.underlying182, a51 := Tryz.isAgg182, z51 := Tryz.sizeOf182, v51 := Tryz.zeroValue182, t53 := Tryz.underlying158, a53 := Tryz.isAgg158, z53 := Tryz.sizeOf158, v53 := Tryz.zeroValue158, t171 := Tryz.underlying157, a171 := Tryz.isAgg157, z171 := Tryz.sizeOf157, v171 := Tryz.zeroValue157, t173 := Tryz.underlying161, a173 := Tryz.isAgg161, z173 := Tryz.sizeOf161, v173 := Tryz.zeroValue161, t212 := Tryz.underlying181, a212 := Tryz.isAgg181, z212 := Tryz.sizeOf181, v212 := Tryz.zeroValue181, t213 := Tryz.underlying183, a213 := Tryz.isAgg183, z213 := Tryz.sizeOf183, t232 := Tryz.underlying204, a232 := Tryz.isAgg204, z232 := Tryz.sizeOf204, v232 := Tryz.zeroValue204, t233 := Tryz.underlying205, a233 := Tryz.isAgg205, z233 := Tryz.sizeOf205, v233 := Tryz.zeroValue205, g17 := by kernel_rfl, g18 := by kernel_rfl, g19 := by kernel_rfl, i0 := by kernel_rfl, i2 := by kernel_rfl, i3 := by kernel_rfl, i4 := by kernel_rfl, i5 := by kernel_rfl, i9 := by kernel_rfl, i20 := by kernel_rfl, i37 := by kernel_rfl, i46 := by kernel_rfl, i51 := by kernel_rfl, i53 := by kernel_rfl, i171 := by kernel_rfl, i173 := by kernel_rfl, i212 := by kernel_rfl, i232 := by kernel_rfl, i233 := by kernel_rfl, m17 := by kernel_rfl, m18 := by kernel_rfl, m19 := by kernel_rfl }
def laysIdxR : Ren := ⟨fun | 137 => 57 | 217 => 82 | 266 => 106 | n => n, fun | 9 => 9 | 5 => 5 | 3 => 3 | n => n, fun n => n⟩
set_option maxRecDepth 100000 in
theorem laysIdx : Lays.n137 Tryz.prog laysIdxR := { mixed := rfl, f137 := Tryz.func57, f217 := Tryz.func82, f266 := Tryz.func106, t3 := Tryz.underlying3, a3 := Tryz.isAgg3, z3 := Tryz.sizeOf3, v3 := Tryz.zeroValue3, t5 := Tryz.underlying5, a5 := Tryz.isAgg5, z5 := Tryz.sizeOf5, v5 := Tryz.zeroValue5, t9 := Tryz.underlying9, a9 := Tryz.isAgg9, z9 := Tryz.sizeOf9, v9 := Tryz.zeroValue9 }
def laysSplitR : Ren := ⟨fun | 146 => 29 | 221 => 56 | 268 => 79 | 138 => 80 | 143 => 81 | 195 => 103 | 197 => 104 | 218 => 105 | 219 => 89 | 260 => 133 | 217 => 82 | 225 => 108 | 224 => 109 | 267 => 110 | 266 => 106 | 314 => 134 | n => n, fun | 9 => 9 | 31 => 67 | 3 => 3 | 4 => 4 | 0 => 0 | 105 => 165 | 21 => 21 | 5 => 5 | 46 => 168 | 119 => 196 | 139 => 199 | 138 => 198 | 146 => 185 | 51 => 182 | n => n, fun | 1 => 0 | 3 => 4 | 4 => 5 | n => n⟩
set_option maxRecDepth 100000 in
theorem laysSplit : Lays.n146 Tryz.prog laysSplitR := { mixed := rfl, f138 := Tryz.func80, f143 := Tryz.func81, f146 := Tryz.func29, f195 := Tryz.func103, f197 := Tryz.func104, f217 := Tryz.func82, f218 := Tryz.func105, f219 := Tryz.func89, f221 := Tryz.func56, f224 := Tryz.func109, f225 := Tryz.func108, f260 := Tryz.func133, f266 := Tryz.func106, f267 := Tryz.func110, f268 := Tryz.func79, f314 := Tryz.func134, t0 := Tryz.underlying0, a0 := Tryz.isAgg0, z0 := Tryz.sizeOf0, v0 := Tryz.zeroValue0, t3 := Tryz.underlying3, a3 := Tryz.isAgg3, z3 := Tryz.sizeOf3, v3 := Tryz.zeroValue3, t4 := Tryz.underlying4, a4 := Tryz.isAgg4, z4 := Tryz.sizeOf4, v4 := Tryz.zeroValue4, t5 := Tryz.underlying5, a5 := Tryz.isAgg5, z5 := Tryz.sizeOf5, v5 := Tryz.zeroValue5, t9 := Tryz.underlying9, a9 := Tryz.isAgg9, z9 := Tryz.sizeOf9, v9 := Tryz.zeroValue9, t21 := Tryz.underlying21, a21 := Tryz.isAgg21, z21 := Tryz.sizeOf21, v21 := Tryz.zeroValue21, t31 := Tryz.underlying67, a31 := Tryz.isAgg67, z31 := Tryz.sizeOf67, v31 := Tryz.zeroValue67, t46 := Tryz.underlying168, a46 := Tryz.isAgg168, z46 := Tryz.sizeOf168, v46 := Tryz.zeroValue168, t51 := Tryz.underlying182, a51 := Tryz.isAgg182, z51 := Tryz.sizeOf182, v51 := Tryz.zeroValue182, t105 := Tryz.underlying165, a105 := Tryz.isAgg165, z105 := Tryz.sizeOf165, v105 := Tryz.zeroValue165, t119 := Tryz.underlying196, a119 := Tryz.isAgg196, z119 := Tryz.sizeOf196, t138 := Tryz.underlying198, a138 := Tryz.isAgg198, z138 := Tryz.sizeOf198, v138 := Tryz.zeroValue198, t139 := Tryz.underlying199, a139 := Tryz.isAgg199, z139 := Tryz.sizeOf199, v139 := Tryz.zeroValue199, t146 := Tryz.underlying185, a146 := Tryz.isAgg185, z146 := Tryz.sizeOf185, v146 := Tryz.zeroValue185, g1 := by kernel_rfl, g3 := by kernel_rfl, g4 := by kernel_rfl }
def laysAtoiR : Ren := ⟨fun | 172 => 66 | 244 => 90 | 245 => 91 | 247 => 111 | 279 => 112 | 280 => 113 | 281 => 114 | 282 => 115 | 287 => 135 | 316 => 136 | 171 => 27 | 205 => 137 | 321 => 142 | 322 => 143 | 243 => 54 | 246 => 77 | 283 => 98 | 284 => 99 | 285 => 100 | 286 => 101 | 129 => 129 | 317 => 128 | 318 => 130 | 319 => 131 | 320 => 132 | 337 => 140 | 338 => 141 | n => n, fun | 9 => 9 | 3 => 3 | 75 => 105 | 76 => 106 | 4 => 4 | 5 => 5 | 167 => 169 | 37 => 101 | 0 => 0 | 85 => 170 | 2 => 2 | 168 => 172 | 53 => 158 | 175 => 187 | 46 => 168 | 210 => 191 | 127 => 133 | 145 => 203 | 143 => 201 | 21 => 21 | 171 => 157 | 173 => 161 | 212 => 181 | 51 => 182 | 20 => 20 | 213 => 183 | 232 => 204 | 233 => 205 | 80 => 77 | n => n, fun | 15 => 2 | 16 => 3 | 17 => 1 | 18 => 6 | 19 => 7 | n => n⟩
set_option maxRecDepth 100000 in
theorem laysAtoi : LaysC.n172 Tryz.prog laysAtoiR := { mixed := rfl, f129 := Tryz.func129, f171 := Tryz.func27, f172 := Tryz.func66, f205 := Tryz.func137, f243 := Tryz.func54, f244 := Tryz.func90, f245 := Tryz.func91, f246 := Tryz.func77, f247 := Tryz.func111, f279 := Tryz.func112, f280 := Tryz.func113, f281 := Tryz.func114, f282 := Tryz.func115, f283 := Tryz.func98, f284 := Tryz.func99, f285 := Tryz.func100, f286 := Tryz.func101, f287 := Tryz.func135, f316 := Tryz.func136, f317 := Tryz.func128, f318 := Tryz.func130, f319 := Tryz.func131, f320 := Tryz.func132, f321 := Tryz.func142, f322 := Tryz.func143, f337 := Tryz.func140, f338 := Tryz.func141, t0 := Tryz.underlying0, a0 := Tryz.isAgg0, z0 := Tryz.sizeOf0, v0 := Tryz.zeroValue0, t2 := Tryz.underlying2, a2 := Tryz.isAgg2, z2 := Tryz.sizeOf2, v2 := Tryz.zeroValue2, t3 := Tryz.underlying3, a3 := Tryz.isAgg3, z3 := Tryz.sizeOf3, v3 := Tryz.zeroValue3, t4 := Tryz.underlying4, a4 := Tryz.isAgg4, z4 := Tryz.sizeOf4, v4 := Tryz.zeroValue4, t5 := Tryz.underlying5, a5 := Tryz.isAgg5, z5 := Tryz.sizeOf5, v5 := Tryz.zeroValue5, t9 := Tryz.underlying9, a9 := Tryz.isAgg9, z9 := Tryz.sizeOf9, v9 := Tryz.zeroValue9, t20 := Tryz.underlying20, a20 := Tryz.isAgg20, z20 := Tryz.sizeOf20, v20 := Tryz.zeroValue20, t21 := Tryz.underlying21, a21 := Tryz.isAgg21, z21 := Tryz.sizeOf21, v21 := Tryz.zeroValue21, t37 := Tryz.underlying101, a37 := Tryz.isAgg101, z37 := Tryz.sizeOf101, v37 := Tryz.zeroValue101, t46 := Tryz.underlying168, a46 := Tryz.isAgg168, z46 := Tryz.sizeOf168, v46 := Tryz.zeroValue168, t51 := Tryz.underlying182, a51 := Tryz.isAgg182, z51 := Tryz.sizeOf182, v51 := Tryz.zeroValue182, t53 := Tryz.underlying158, a53 := Tryz.isAgg158, z53 := Tryz.sizeOf158, v53 := Tryz.zeroValue158, t75 := Tryz.underlying105, a75 := Tryz.isAgg105, z75 := Tryz.sizeOf105, v75 := Tryz.zeroValue105, t76 := Tryz.underlying106, a76 := Tryz.isAgg106, z76 := Tryz.sizeOf106, v76 := Tryz.zeroValue106, t85 := Tryz.underlying170, a85 := Tryz.isAgg170, z85 := Tryz.sizeOf170, v85 := Tryz.zeroValue170, t127 := Tryz.underlying133, a127 := Tryz.isAgg133, z127 := Tryz.sizeOf133, v127 := Tryz.zeroValue133, t143 := Tryz.underlying201, a143 := Tryz.isAgg201, z143 := Tryz.sizeOf201, v143 := Tryz.zeroValue201, t145 := Tryz.underlying203, a145 := Tryz.isAgg203, z145 := Tryz.sizeOf203, v145 := Tryz.zeroValue203, t167 := Tryz.underlying169, a167 := Tryz.isAgg169, z167 := Tryz.sizeOf169, v167 := Tryz.zeroValue169, t168 := Tryz.underlying172, a168 := Tryz.isAgg172, z168 := Tryz.sizeOf172, v168 := Tryz.zeroValue172, t171 := Tryz.underlying157, a171 := Tryz.isAgg157, z171 := Tryz.sizeOf157, v171 := Tryz.zeroValue157, t173 := Tryz.underlying161, a173 := Tryz.isAgg161, z173 := Tryz.sizeOf161, v173 := Tryz.zeroValue161, t175 := Tryz.underlying187, a175 := Tryz.isAgg187, z175 := Tryz.sizeOf187, v175 := Tryz.zeroValue187, t210 := Tryz.underlying191, a210 := Tryz.isAgg191, z210 := Tryz.sizeOf191, v210 := Tryz.zeroValue191, t212 := Tryz.underlying181, a212 := Tryz.isAgg181, z212 := Tryz.sizeOf181, v212 := Tryz.zeroValue181, t213 := Tryz.underlying183, a213 := Tryz.isAgg183, z213 := Tryz.sizeOf183, t232 := Tryz.underlying204, a232 := Tryz.isAgg204, z232 := Tryz.sizeOf204, v232 := Tryz.zeroValue204, t233 := Tryz.underlying205, a233 := Tryz.isAgg205, z233 := Tryz.sizeOf205, v233 := Tryz.zeroValue205, g15 := by kernel_rfl, g16 := by kernel_rfl, g17 := by kernel_rfl, g18 := by kernel_rfl, g19 := by kernel_rfl, t80 := Tryz.underlying77, a80 := Tryz.isAgg77, z80 := Tryz.sizeOf77, v80 := Tryz.zeroValue77, i0 := by kernel_rfl, i2 := by kernel_rfl, i3 := by kernel_rfl, i4 := by kernel_rfl, i5 := by kernel_rfl, i9 := by kernel_rfl, i20 := by kernel_rfl, i21 := by kernel_rfl, i37 := by kernel_rfl, i46 := by kernel_rfl, i51 := by kernel_rfl, i53 := by kernel_rfl, i75 := by kernel_rfl, i76 := by kernel_rfl, i80 := by kernel_rfl, i85 := by kernel_rfl, i127 := by kernel_rfl, i143 := by kernel_rfl, i145 := by kernel_rfl, i167 := by kernel_rfl, i168 := by kernel_rfl, i171 := by kernel_rfl, i173 := by kernel_rfl, i175 := by kernel_rfl, i210 := by kernel_rfl, i212 := by kernel_rfl, i232 := by kernel_rfl, i233 := by kernel_rfl, m15 := by kernel_rfl, m16 := by kernel_rfl, m17 := by kernel_rfl, m18 := by kernel_rfl, m19 := by kernel_rfl, c0 := by kernel_rfl, c2 := by kernel_rfl, c3 := by kernel_rfl, c4 := by kernel_rfl, c5 := by kernel_rfl, c9 := by kernel_rfl, c20 := by kernel_rfl, c21 := by kernel_rfl, c37 := by kernel_rfl, c46 := by kernel_rfl, c51 := by kernel_rfl, c53 := by kernel_rfl, c75 := by kernel_rfl, c76 := by kernel_rfl, c80 := by kernel_rfl, c85 := by kernel_rfl, c127 := by kernel_rfl, c143 := by kernel_rfl, c145 := by kernel_rfl, c167 := by kernel_rfl, c168 := by kernel_rfl, c171 := by kernel_rfl, c173 := by kernel_rfl, c175 := by kernel_rfl, c210 := by kernel_rfl, c212 := by kernel_rfl, c213 := by kernel_rfl, c232 := by kernel_rfl, c233 := by kernel_rfl }
def laysTrimR : Ren := ⟨fun | 101 => 67 | 208 => 92 | 206 => 116 | n => n, fun | 9 => 9 | 4 => 4 | 3 => 3 | n => n, fun n => n⟩
set_option maxRecDepth 100000 in
theorem laysTrim : Lays.n101 Tryz.prog laysTrimR := { mixed := rfl, f101 := Tryz.func67, f206 := Tryz.func116, f208 := Tryz.func92, t3 := Tryz.underlying3, a3 := Tryz.isAgg3, z3 := Tryz.sizeOf3, v3 := Tryz.zeroValue3, t4 := Tryz.underlying4, a4 := Tryz.isAgg4, z4 := Tryz.sizeOf4, v4 := Tryz.zeroValue4, t9 := Tryz.underlying9, a9 := Tryz.isAgg9, z9 := Tryz.sizeOf9, v9 := Tryz.zeroValue9 }
def laysJoinR : Ren := ⟨fun | 156 => 28 | 165 => 55 | 166 => 47 | 169 => 49 | 240 => 72 | 241 => 78 | 276 => 94 | 277 => 102 | n => n, fun | 31 => 67 | 9 => 9 | 3 => 3 | 4 => 4 | 0 => 0 | 20 => 20 | 72 => 103 | 76 => 106 | 70 => 100 | 37 => 101 | 75 => 105 | 127 => 133 | 164 => 153 | 5 => 5 | 80 => 77 | n => n, fun n => n⟩
set_option maxRecDepth 100000 in
theorem laysJoin : Lays.n156 Tryz.prog laysJoinR := { mixed := rfl, f156 := Tryz.func28, f165 := Tryz.func55, f166 := Tryz.func47, f169 := Tryz.func49, f240 := Tryz.func72, f241 := Tryz.func78, f276 := Tryz.func94, f277 := Tryz.func102, t0 := Tryz.underlying0, a0 := Tryz.isAgg0, z0 := Tryz.sizeOf0, v0 := Tryz.zeroValue0, t3 := Tryz.underlying3, a3 := Tryz.isAgg3, z3 := Tryz.sizeOf3, v3 := Tryz.zeroValue3, t4 := Tryz.underlying4, a4 := Tryz.isAgg4, z4 := Tryz.sizeOf4, v4 := Tryz.zeroValue4, t9 := Tryz.underlying9, a9 := Tryz.isAgg9, z9 := Tryz.sizeOf9, v9 := Tryz.zeroValue9, t20 := Tryz.underlying20, a20 := Tryz.isAgg20, z20 := Tryz.sizeOf20, v20 := Tryz.zeroValue20, t31 := Tryz.underlying67, a31 := Tryz.isAgg67, z31 := Tryz.sizeOf67, v31 := Tryz.zeroValue67, t37 := Tryz.underlying101, a37 := Tryz.isAgg101, z37 := Tryz.sizeOf101, v37 := Tryz.zeroValue101, t70 := Tryz.underlying100, a70 := Tryz.isAgg100, z70 := Tryz.sizeOf100, v70 := Tryz.zeroValue100, t72 := Tryz.underlying103, a72 := Tryz.isAgg103, z72 := Tryz.sizeOf103, v72 := Tryz.zeroValue103, t75 := Tryz.underlying105, a75 := Tryz.isAgg105, z75 := Tryz.sizeOf105, v75 := Tryz.zeroValue105, t76 := Tryz.underlying106, a76 := Tryz.isAgg106, z76 := Tryz.sizeOf106, v76 := Tryz.zeroValue106, t127 := Tryz.underlying133, a127 := Tryz.isAgg133, z127 := Tryz.sizeOf133, v127 := Tryz.zeroValue133, t164 := Tryz.underlying153, a164 := Tryz.isAgg153, z164 := Tryz.sizeOf153, v164 := Tryz.zeroValue153 }
theorem xJoin : Builder.Extra Tryz.prog laysJoinR := { sizeBuilder := by kernel_rfl, liesBuilder := by kernel_rfl, t5 := Tryz.underlying5, a5 := Tryz.isAgg5, z5 := Tryz.sizeOf5, v5 := Tryz.zeroValue5, infoByte := by kernel_rfl, cellsByte := by kernel_rfl, sizeByte := by kernel_rfl, neB5 := by decide }
def IfV (v : Value) : Prop := v = .nilIface ∨ ∃ te pe, v = .iface te pe
/-- what the package variables hold that the library's functions look at. -/
def glob (w : World) : Prop := Lib.TabIs Tryz.prog w "internal/strconv.uint64pow10" .u64 Lib.pow10Tab ∧ (∃ ev, w.cell? ⟨2, 0, none⟩ = some ev ∧ IfV ev) ∧ (∃ ev, w.cell? ⟨3, 0, none⟩ = some ev ∧ IfV ev) ∧ ∃ m, w.cell? ⟨0, 0, none⟩ = some (.int .i64 m)
theorem cell_up {w w' : World} (hb : ∀ b, b < w.heap.size → w'.heap[b]? = w.heap[b]?) {a : Addr} {v : Value} (h : w.cell? a = some v) : w'.cell? a = some v := by
 unfold World.cell? at h ⊢
 cases hh : w.heap[a.block]? with
 | none => rw [hh] at h; cases h
 | some o =>
  rw [hb _ (Array.getElem?_eq_some_iff.1 hh).1]
  exact h
theorem glob_ok : GlOk glob := fun w w' hs hb ⟨h1, ⟨ev, h2, h3⟩, ⟨er, h4, h5⟩, m, h6⟩ => by
 refine ⟨?_, ⟨ev, cell_up hb h2, h3⟩, ⟨er, cell_up hb h4, h5⟩, m, cell_up hb h6⟩
 unfold Lib.TabIs World.var? at h1 ⊢
 cases hg : Tryz.prog.globalNamed "internal/strconv.uint64pow10" with
 | none => rw [hg] at h1; cases h1
 | some g =>
  rw [hg] at h1
  simp only [Option.bind_some] at h1 ⊢
  cases hh : w.heap[g]? with
  | none => rw [hh] at h1; cases h1
  | some o =>
   rw [hb _ (Array.getElem?_eq_some_iff.1 hh).1]
   exact h1
theorem grow_below (w : World) (k : Nat) (os : Array Obj) : Below w.heap.size w (grow (w.drewN k) os) :=
 ⟨rfl, rfl, rfl, by simp [grow, World.drewN], fun b hb => by
  show (w.heap ++ os)[b]? = w.heap[b]?
  rw [Array.getElem?_append_left hb]⟩
theorem itoa_s (n : Int) (h0 : -9223372036854775808 ≤ n) (h1 : n ≤ 9223372036854775807) : CtrK glob Tryz.prog 27 [(.v (.int .i64 n))] (fun rr => rr = ⟨(.v (.string (⟨(Lib.itoa n).toArray⟩))), []⟩) :=
 CtrK.vals (xs := [.int .i64 n]) Tryz.func27 rfl rfl (u := .string ⟨(Lib.itoa n).toArray⟩) (fun g => rfl) fun w hg => (Any.strconv_Itoa laysItoa n h0 h1 w hg.1).mono fun e w' ⟨he, k, os, hw⟩ => ⟨he, by rw [hw]; exact grow_below w k os⟩
theorem indexByte_s (s : ByteArray) (c : Int) : Ctr Tryz.prog 57 [(.v (.string (s))), .v (.int .u8 c)] (fun rr => rr = ⟨(.v (.int .i64 (Lib.indexByte s.data.toList c.toNat.toUInt8))), []⟩) :=
 Ctr.vals (xs := [.string s, .int .u8 c]) Tryz.func57 rfl rfl (u := .int .i64 (Lib.indexByte s.data.toList c.toNat.toUInt8)) (fun g => rfl) fun w => (Any.strings_IndexByte laysIdx s c w).mono fun e w' ⟨he, hw⟩ => ⟨he, by rw [hw]; exact Below.refl _ _⟩
theorem split_s (s : ByteArray) (c : UInt8) (hs : s.size < 4294967281) : CtrK glob Tryz.prog 29 [(.v (.string (s))), (.v (.string (⟨#[c]⟩)))] (fun rr => rr = ⟨.row 0, [.own 9 1 ((Lib.splitB ⟨#[c]⟩ 0 (Lib.countB s ⟨#[c]⟩) s).map fun x => [.v (.string x)])]⟩) :=
 CtrK.strs (xs := [.string s, .string ⟨#[c]⟩]) Tryz.func29 rfl rfl fun w hg => by
  obtain ⟨m, hm⟩ := hg.2.2.2
  have hlen := Lib.splitB_all ⟨#[c]⟩ (Nat.le_refl 1) 0 _ s rfl
  have hsz := Lib.countB_le ⟨#[c]⟩ (Nat.le_refl 1) s.size s (Nat.le_refl _)
  refine (Any.strings_Split laysSplit (by kernel_rfl) s ⟨#[c]⟩ m w hs hm (Nat.le_refl 1)).mono fun e w' ⟨he, hw⟩ => ⟨_, he, ?_, ?_⟩
  ·rw [hw]; exact Below.alloc (Below.refl _ _) (Nat.le_refl _) _
  ·generalize Lib.splitB ⟨#[c]⟩ 0 (Lib.countB s ⟨#[c]⟩) s = l at hlen hw ⊢
   rw [hw]
   refine ⟨by simp, .inr ⟨w.heap.size, _, (l.map Value.string).toArray, by rw [hlen], Nat.le_refl _, heap_alloc_new w _, by omega, by simp only [maxLen]; omega, by simp; omega, by simp [List.take_of_length_le]⟩⟩
theorem eS_cell {μ : Mu} {w : World} (hμ : ∀ f, (μ f).In w) {b : Bool} {A : Option Addr} {l : List ByteArray} (h : RdE μ (l.map fun x => [D.v (.string x)]) b A 1 0) (j : Nat) (x : ByteArray) (hj : l[j]? = some x) : ∃ ad, A = some ad ∧ w.cell? (ad.add j) = some (.string x) := by
 obtain ⟨-, ad, h1, h2⟩ := h.get j [D.v (.string x)] (by rw [List.getElem?_map, hj]; rfl)
 refine ⟨ad, h1, ?_⟩
 simp only [RdC] at h2
 obtain ⟨⟨y, h3, h4⟩, -⟩ := h2
 simp only [Rd] at h4
 rw [h4.1] at h3
 have := (hμ b).cell h3
 rw [show ((0 + j) * 1) = j by omega, Addr.add_add, Nat.add_zero] at this
 exact this
theorem addr_none {w : World} {ad : Addr} {v : Value} (h : w.cell? (ad.add 0) = some v) : ad.spot = none ∧ ad.block < w.heap.size := by
 have e : ad.add 0 = ad := by unfold Addr.add; rfl
 rw [e] at h
 unfold World.cell? at h
 cases hh : w.heap[ad.block]? with
 | none => rw [hh] at h; cases h
 | some o =>
  rw [hh] at h
  refine ⟨?_, (Array.getElem?_eq_some_iff.1 hh).1⟩
  cases hs : ad.spot with
  | none => rfl
  | some q =>
   rw [hs] at h
   split at h <;> simp_all
theorem addr_at (bk o j : Nat) : (⟨bk, o, none⟩ : Addr).add j = ⟨bk, o + j, none⟩ := by
 unfold Addr.add
 split <;> simp_all
theorem join_s (b : Bool) (ws : List ByteArray) (sep : ByteArray) (hN : ws.length ≤ 1000000) (hlen : (Lib.join (ws.map (·.data.toList)) sep.data.toList).length ≤ 140737488355328) :
  Ctr Tryz.prog 28 [.sl b 1 (ws.map fun x => [.v (.string x)]), (.v (.string (sep)))] (fun rr => rr = ⟨(.v (.string (⟨(Lib.join (ws.map (·.data.toList)) sep.data.toList).toArray⟩))), []⟩) := by
 refine ⟨⟨_, Tryz.func28, rfl, rfl⟩, fun w kp hk vs hr => ?_⟩
 have hμ : ∀ f, (muOf kp w f).In w := fun f => by
  cases f
  ·exact fun b o h => h
  ·exact hk
 match vs, hr with
 | [u, v], hr =>
  simp only [rels, rel] at hr
  obtain ⟨hu, hv, -⟩ := hr
  simp only [Rd] at hu
  obtain ⟨A, c, rfl, hc, hE⟩ := hu
  subst hv
  rw [List.length_map] at hc ⊢
  have fin : (Calls Tryz.prog 28 #[.slice A ws.length c, .string sep] w fun e w' => e = .returned (.string ⟨(Lib.join (ws.map (·.data.toList)) sep.data.toList).toArray⟩) ∧ Below w.heap.size w w') := by
   cases hws : ws with
   | nil =>
    refine (Any.strings_Join_none laysJoin xJoin A c sep w).mono fun e w' ⟨he, hw⟩ => ⟨he, by rw [hw]; exact Below.refl _ _⟩
   | cons x xs =>
    obtain ⟨ad, rfl, h0⟩ := eS_cell hμ hE 0 x (by rw [hws]; rfl)
    obtain ⟨hs, hb⟩ := addr_none h0
    obtain ⟨bk, o, sp⟩ := ad
    simp only at hs hb
    subst hs
    rw [← hws]
    refine Any.strings_Join laysJoin xJoin bk o c ws sep w (fun j y hj => ?_) hb (by omega) hc hlen
    obtain ⟨ad', h1, h2⟩ := eS_cell hμ hE j y hj
    cases h1
    rw [addr_at] at h2
    exact h2
  refine fin.mono fun e w' ⟨he, hw⟩ => ⟨_, _, he, rfl, RetOk.plain hk hw (fun g => rfl)⟩
end Go.Proofs.YteajjcbinnjgaaaGreatDoor
/-
 Chapter 6: numbers of texts (the program).
-/
namespace Go.Proofs.YteajjcbinnjgaaaGreatDoor
open Go Go.Vx Go.Shelf Go.RowKit Go.Sort
set_option linter.unusedSimpArgs false
set_option linter.unusedVariables false
set_option maxHeartbeats 4000000 in
set_option maxRecDepth 100000 in
theorem number_raw (s : ByteArray) (d : Nat) (hlim : s.size ≤ 281474976710656) (hd : d ≤ 1000) (w : World) (hg : glob w) :
  Calls Tryz.prog 41 #[.string s, .int .i64 d] w fun e w' => e = .returned (.tuple #[.int .i64 (numP s.data.toList d).1, .bool (numP s.data.toList d).2]) ∧ Below w.heap.size w w' := by
 have mixed : Tryz.prog.follows Departure.mixedOrders = true := rfl
 obtain ⟨ev, he, hev⟩ := hg.2.1
 obtain ⟨er, hr, her⟩ := hg.2.2.1
 rcases h : Lib.atoiAll s.data.toList with v | _ | _
 ·obtain ⟨v0, v1⟩ := Lib.atoiAll_bounds h
  have hv : numP s.data.toList d = (v, decide (Lib.itoa v = s.data.toList ∧ (Lib.trimPrefix s.data.toList [45]).length ≤ d)) := by simp only [numP, h]
  rw [hv]
  simp only
  go_enter Tryz.func41, Tryz.ntmps41
  go_wp2_with (go_at_call 66; refine (Any.strconv_Atoi_ok laysAtoi s (by omega) v h _).mono ?_)
  rintro e W1 ⟨rfl, hw⟩
  have hb1 : Below w.heap.size w W1 := by
   rcases hw with rfl | ⟨t, rfl⟩
   ·exact Below.refl _ _
   ·exact Lib.bytesWorld_below _ _ _
  have hg1 := glob_ok w W1 hb1.size hb1.block hg
  go_wp2_with (go_at_call 27; refine (Any.strconv_Itoa laysItoa v v0 v1 _ ?_).mono ?_)
  ·exact hg1.1
  rintro e W2 ⟨rfl, k, os, rfl⟩
  have hb2 : Below w.heap.size w (grow (W1.drewN k) os) := hb1.trans ((grow_below W1 k os).mono hb1.size)
  by_cases hi : Lib.itoa v = s.data.toList
  ·have hs' : (⟨(Lib.itoa v).toArray⟩ : ByteArray) = s := by rw [hi]
   rw [hs']
   go_wp2_with (go_at_call 67; refine (Any.strings_TrimPrefix laysTrim s ⟨#[45]⟩ _).mono ?_)
   go_ret2
   exact ⟨by simp [hi], hb2⟩
  ·have hs' : ¬ (⟨(Lib.itoa v).toArray⟩ : ByteArray) = s := fun e => hi (by rw [← e])
   have hi' : ¬ Lib.itoa v = s.toList := fun e => hi (by rw [e, Lib.toList_data])
   go_wp2
   all_goals first
    | exact absurd (by assumption) hi'
    | (go_ret2; exact ⟨by simp [hi], hb2⟩)
 ·have hv : numP s.data.toList d = (0, false) := by simp only [numP, h]
  rw [hv]
  simp only
  go_enter Tryz.func41, Tryz.ntmps41
  go_wp2_with (go_at_call 66; refine (Any.strconv_Atoi_syntax laysAtoi s hlim h ev _ ?_ hev).mono ?_)
  ·exact he
  rintro e W1 ⟨N, rfl, -, -, hb⟩
  go_wp2
  go_ret2
  exact ⟨rfl, hb⟩
 ·have hv : numP s.data.toList d = (Lib.atoiSat s.data.toList, false) := by simp only [numP, h]
  rw [hv]
  simp only
  go_enter Tryz.func41, Tryz.ntmps41
  go_wp2_with (go_at_call 66; refine (Any.strconv_Atoi_range laysAtoi s hlim h er _ ?_ her).mono ?_)
  ·exact hr
  rintro e W1 ⟨N, rfl, -, -, hb⟩
  go_wp2
  go_ret2
  exact ⟨rfl, hb⟩
theorem number_s (s : ByteArray) (d : Nat) (hlim : s.size ≤ 281474976710656) (hd : d ≤ 1000) : CtrK glob Tryz.prog 41 [(.v (.string (s))), (.v (.int .i64 ((d : Int))))] (fun rr => rr = ⟨.tup [(.v (.int .i64 ((numP s.data.toList d).1))), (.v (.bool ((numP s.data.toList d).2)))], []⟩) :=
 CtrK.vals (xs := [.string s, .int .i64 (d : Int)]) Tryz.func41 rfl rfl (u := .tuple #[.int .i64 (numP s.data.toList d).1, .bool (numP s.data.toList d).2]) (fun g => by
  simp only [rel]
  exact ⟨_, rfl, rels_same [.int .i64 (numP s.data.toList d).1, .bool (numP s.data.toList d).2]⟩) fun w hg => number_raw s d hlim hd w hg
end Go.Proofs.YteajjcbinnjgaaaGreatDoor
/-
 Chapter 6: numbers as texts, texts cut (the reference).
-/
namespace Go.Proofs.YteajjcbinnjgaaaGreatDoor
open Go Go.Vx
set_option linter.unusedSimpArgs false
set_option linter.unusedVariables false
set_option maxRecDepth 20000
def bs (l : List UInt8) : ByteArray := ⟨l.toArray⟩
theorem bs_add (a b : List UInt8) : bs a ++ bs b = bs (a ++ b) := by
 apply ByteArray.ext
 simp [bs, ByteArray.data_append]
theorem bs_size (a : List UInt8) : (bs a).size = a.length := by simp [bs, ByteArray.size]
theorem bs_data (s : ByteArray) : bs s.data.toList = s := by cases s; rfl
theorem bs_toList (a : List UInt8) : (bs a).data.toList = a := by simp [bs]
theorem bs_inj {a b : List UInt8} : bs a = bs b ↔ a = b := ⟨fun h => by rw [← bs_toList a, h, bs_toList], fun h => by rw [h]⟩
theorem CvR.go {e : TypeId} {els : List (List D)} {K : SV → St → Prop} {st : St} (h : 0 < els.length) (z : ByteArray) (hz : els = bytesD z) (hk : K (.v (.string z)) st) : CvR (some (.own e 1 els)) K st ⟨⟩ := ⟨rfl, h, z, hz, hk⟩
theorem dec_len : ∀ (k u : Nat), u < 10 ^ (k + 1) → (Lib.decDigits u).length ≤ k + 1
 | 0, u, h => by rw [Lib.decDigits, dif_pos (by omega)]; simp
 | k + 1, u, h => by
  rw [Lib.decDigits]
  split
  ·simp
  ·have h10 : 10 ^ (k + 1 + 1) = 10 ^ (k + 1) * 10 := Nat.pow_succ 10 (k + 1)
   have := dec_len k (u / 10) (by omega)
   simp only [List.length_append, List.length_singleton]
   omega
theorem bs_nil : bs [] = ⟨#[]⟩ := rfl
theorem size_s (n : Int) (h : -1000 ≤ n ∧ n ≤ 1000) : Ctr Tryz.prog 59 [(.v (.int .i64 n))] (fun rr => rr = ⟨(.v (.int .i64 ((n.natAbs : Int)))), []⟩) := by
 rw [show (n.natAbs : Int) = max n (-n) by omega]
 refine Ctr.of (rs := [.tmp 2]) Tok true Tryz.func59 rfl rfl rfl rfl (by simp [ofDL]) (fun w0 kp => ?_)
 simp only [↓sx0, sxE, encs, sevalprocAttr]
 repeat ((with_reducible refine Vc.go ?_ fun _ => ?_); (focus (first | omega | (simp only [InK]; omega) | (simp [InK]; done) | (simp [InK]; omega))); simp only [↓sx0, sxE, encs, sevalprocAttr])
 refine EndW.fn ?_ ?_ <;> simp only [sx4, encs, kpLL_map, sxR, sevalprocAttr] <;> (try simp) <;> (try omega)
structure DS where
 m : Int
 suf : List UInt8
set_option maxHeartbeats 4000000 in
theorem decimal_s (n : Int) (h0 : -9223372036854775808 ≤ n) (h1 : n ≤ 9223372036854775807) : Ctr Tryz.prog 35 [(.v (.int .i64 n))] (fun rr => rr = ⟨(.v (.string (bs (Lib.itoa n)))), []⟩) := by
 refine Ctr.of (rs := [.tmp 2]) Tok true Tryz.func35 rfl rfl rfl rfl (by simp [ofDL]) (fun w0 kp => ?_)
 simp only [↓sx0, sxE, encs, sevalprocAttr]
 refine BrW.dec (fun hz => ?_) (fun hz => ?_)
 ·subst hz
  simp only [↓sx0, sxE, encs, sevalprocAttr]
  have : bs (Lib.itoa 0) = ⟨#[48]⟩ := by rw [Lib.itoa, if_neg (by decide), Lib.decDigits, dif_pos (by decide)]; rfl
  refine EndW.fn ?_ ?_ <;> simp only [sx4, encs, kpLL_map, sxR, sevalprocAttr] <;> (try simp [this]) <;> (try omega)
 ·have hl : (Lib.decDigits n.natAbs).length ≤ 20 := dec_len 19 _ (by omega)
  simp only [↓sx0, sxE, encs, sevalprocAttr]
  refine BrW.dec (fun hn => ?_) (fun hn => ?_)
  ·have hit : bs (Lib.itoa n) = ⟨#[45]⟩ ++ bs (Lib.decDigits n.natAbs) := by
    rw [show (⟨#[45]⟩ : ByteArray) = bs [45] from rfl, bs_add, Lib.itoa, if_pos hn]; rfl
   simp only [↓sx0, sxE, encs, sevalprocAttr]
   refine LoopW.comp [0, 3, 4] (by simp only [sx2, encs, sxR, sevalprocAttr] <;> (try simp) <;> (try omega)) ?_
   simp only [sx2, sxR, sevalprocAttr]
   refine LoopW.up Tok (fun s : DS => [(0, (.v (.int .i64 s.m))), (3, (.v (.string (bs s.suf))))]) (fun s => []) (fun s => []) (fun s => []) (fun s => s.m.natAbs ≤ n.natAbs ∧ Lib.decDigits n.natAbs = (if s.m = 0 then [] else Lib.decDigits s.m.natAbs) ++ s.suf) (fun s => s.m.natAbs) (⟨n, []⟩) (by simp only [sx2, encs, sxR, sevalprocAttr] <;> (try simp [bs_nil, encs]) <;> (try omega)) ?_ ?_
   ·exact ⟨Nat.le_refl _, by rw [if_neg hz]; simp⟩
   rintro ⟨m, suf⟩ ⟨hm, hE⟩
   simp only at hm hE
   have hsl : suf.length ≤ 20 := by
    have := congrArg List.length hE
    rw [List.length_append] at this
    omega
   simp only [↓sx0, sxE, encs, sevalprocAttr]
   refine BrW.dec (fun hm0 => ?_) (fun hm0 => ?_)
   ·simp only [↓sx0, sxE, encs, sevalprocAttr]
    repeat ((with_reducible refine Vc.go ?_ fun _ => ?_); (focus (first | omega | (simp only [InK]; omega) | (simp [InK]; done) | (simp [InK]; omega))); simp only [↓sx0, sxE, encs, sevalprocAttr])
    have e1 : (m.tmod 10).natAbs = m.natAbs % 10 := by rw [Int.natAbs_tmod]; rfl
    have e2 : (m.tdiv 10).natAbs = m.natAbs / 10 := by rw [Int.natAbs_tdiv]; rfl
    refine CallI.fn (size_s (m.tmod 10) (by omega)) (by simp only [sx3, encs, sxR, sevalprocAttr] <;> (try simp) <;> (try rfl)) ?_
    simp only [↓sx0, sxE, encs, sevalprocAttr]
    rw [e1]
    repeat ((with_reducible refine Vc.go ?_ fun _ => ?_); (focus (first | omega | (simp only [InK]; omega) | (simp [InK]; done) | (simp [InK]; omega))); simp only [↓sx0, sxE, encs, sevalprocAttr])
    refine CvR.go (by simp) (bs [UInt8.ofNat (48 + m.natAbs % 10)]) ?_ ?_
    ·simp only [bytesD, bs_toList, List.map_cons, List.map_nil, dig_nat (show m.natAbs % 10 < 10 by omega)]
     simp
    ·simp only [↓sx0, sxE, encs, sevalprocAttr]
     have hs1 : (bs [UInt8.ofNat (48 + m.natAbs % 10)]).size = 1 := bs_size _
     have hs2 : (bs suf).size = suf.length := bs_size _
     repeat ((with_reducible refine Vc.go ?_ fun _ => ?_); (focus (first | omega | (simp only [InK]; omega) | (simp [InK]; done) | (simp [InK]; omega))); simp only [↓sx0, sxE, encs, sevalprocAttr])
     have hadd : bs [UInt8.ofNat (48 + m.natAbs % 10)] ++ bs suf = bs (UInt8.ofNat (48 + m.natAbs % 10) :: suf) := bs_add _ _
     rw [hadd]
     refine ⟨⟨m.tdiv 10, UInt8.ofNat (48 + m.natAbs % 10) :: suf⟩, StLe.auto (by simp only [sx2, encs, sxR, sevalprocAttr] <;> (try simp) <;> (try omega)), ?_, ?_⟩
     ·refine ⟨by simp only; omega, ?_⟩
      simp only
      rw [if_neg hm0] at hE
      by_cases hb : m.natAbs < 10
      ·have : m.tdiv 10 = 0 := by omega
       rw [if_pos this, hE, Lib.decDigits, dif_pos hb, show m.natAbs % 10 = m.natAbs by omega]; rfl
      ·have : ¬ m.tdiv 10 = 0 := by omega
       rw [if_neg this, hE, e2]
       conv => lhs; rw [Lib.decDigits, dif_neg hb]
       simp
     ·simp only; omega
   ·have hm0 := Decidable.not_not.1 hm0
    rw [if_pos hm0, List.nil_append] at hE
    rw [hE] at hit hl
    have hs2 : (bs suf).size = suf.length := bs_size _
    have hs3 : (⟨#[45]⟩ : ByteArray).size = 1 := rfl
    have hs4 : (⟨#[]⟩ : ByteArray).size = 0 := rfl
    simp only [↓sx0, sxE, encs, sevalprocAttr]
    repeat ((with_reducible refine Vc.go ?_ fun _ => ?_); (focus (first | omega | (simp only [InK]; omega) | (simp [InK]; done) | (simp [InK]; omega))); simp only [↓sx0, sxE, encs, sevalprocAttr])
    refine EndW.fn ?_ ?_ <;> simp only [sx4, encs, kpLL_map, sxR, sevalprocAttr] <;> (try simp [hit]) <;> (try omega)
  ·have hit : bs (Lib.itoa n) = ⟨#[]⟩ ++ bs (Lib.decDigits n.natAbs) := by
    rw [show (⟨#[]⟩ : ByteArray) = bs [] from rfl, bs_add, Lib.itoa, if_neg hn, show n.toNat = n.natAbs by omega]; rfl
   simp only [↓sx0, sxE, encs, sevalprocAttr]
   refine LoopW.comp [0, 3, 4] (by simp only [sx2, encs, sxR, sevalprocAttr] <;> (try simp) <;> (try omega)) ?_
   simp only [sx2, sxR, sevalprocAttr]
   refine LoopW.up Tok (fun s : DS => [(0, (.v (.int .i64 s.m))), (3, (.v (.string (bs s.suf))))]) (fun s => []) (fun s => []) (fun s => []) (fun s => s.m.natAbs ≤ n.natAbs ∧ Lib.decDigits n.natAbs = (if s.m = 0 then [] else Lib.decDigits s.m.natAbs) ++ s.suf) (fun s => s.m.natAbs) (⟨n, []⟩) (by simp only [sx2, encs, sxR, sevalprocAttr] <;> (try simp [bs_nil, encs]) <;> (try omega)) ?_ ?_
   ·exact ⟨Nat.le_refl _, by rw [if_neg hz]; simp⟩
   rintro ⟨m, suf⟩ ⟨hm, hE⟩
   simp only at hm hE
   have hsl : suf.length ≤ 20 := by
    have := congrArg List.length hE
    rw [List.length_append] at this
    omega
   simp only [↓sx0, sxE, encs, sevalprocAttr]
   refine BrW.dec (fun hm0 => ?_) (fun hm0 => ?_)
   ·simp only [↓sx0, sxE, encs, sevalprocAttr]
    repeat ((with_reducible refine Vc.go ?_ fun _ => ?_); (focus (first | omega | (simp only [InK]; omega) | (simp [InK]; done) | (simp [InK]; omega))); simp only [↓sx0, sxE, encs, sevalprocAttr])
    have e1 : (m.tmod 10).natAbs = m.natAbs % 10 := by rw [Int.natAbs_tmod]; rfl
    have e2 : (m.tdiv 10).natAbs = m.natAbs / 10 := by rw [Int.natAbs_tdiv]; rfl
    refine CallI.fn (size_s (m.tmod 10) (by omega)) (by simp only [sx3, encs, sxR, sevalprocAttr] <;> (try simp) <;> (try rfl)) ?_
    simp only [↓sx0, sxE, encs, sevalprocAttr]
    rw [e1]
    repeat ((with_reducible refine Vc.go ?_ fun _ => ?_); (focus (first | omega | (simp only [InK]; omega) | (simp [InK]; done) | (simp [InK]; omega))); simp only [↓sx0, sxE, encs, sevalprocAttr])
    refine CvR.go (by simp) (bs [UInt8.ofNat (48 + m.natAbs % 10)]) ?_ ?_
    ·simp only [bytesD, bs_toList, List.map_cons, List.map_nil, dig_nat (show m.natAbs % 10 < 10 by omega)]
     simp
    ·simp only [↓sx0, sxE, encs, sevalprocAttr]
     have hs1 : (bs [UInt8.ofNat (48 + m.natAbs % 10)]).size = 1 := bs_size _
     have hs2 : (bs suf).size = suf.length := bs_size _
     repeat ((with_reducible refine Vc.go ?_ fun _ => ?_); (focus (first | omega | (simp only [InK]; omega) | (simp [InK]; done) | (simp [InK]; omega))); simp only [↓sx0, sxE, encs, sevalprocAttr])
     have hadd : bs [UInt8.ofNat (48 + m.natAbs % 10)] ++ bs suf = bs (UInt8.ofNat (48 + m.natAbs % 10) :: suf) := bs_add _ _
     rw [hadd]
     refine ⟨⟨m.tdiv 10, UInt8.ofNat (48 + m.natAbs % 10) :: suf⟩, StLe.auto (by simp only [sx2, encs, sxR, sevalprocAttr] <;> (try simp) <;> (try omega)), ?_, ?_⟩
     ·refine ⟨by simp only; omega, ?_⟩
      simp only
      rw [if_neg hm0] at hE
      by_cases hb : m.natAbs < 10
      ·have : m.tdiv 10 = 0 := by omega
       rw [if_pos this, hE, Lib.decDigits, dif_pos hb, show m.natAbs % 10 = m.natAbs by omega]; rfl
      ·have : ¬ m.tdiv 10 = 0 := by omega
       rw [if_neg this, hE, e2]
       conv => lhs; rw [Lib.decDigits, dif_neg hb]
       simp
     ·simp only; omega
   ·have hm0 := Decidable.not_not.1 hm0
    rw [if_pos hm0, List.nil_append] at hE
    rw [hE] at hit hl
    have hs2 : (bs suf).size = suf.length := bs_size _
    have hs3 : (⟨#[45]⟩ : ByteArray).size = 1 := rfl
    have hs4 : (⟨#[]⟩ : ByteArray).size = 0 := rfl
    simp only [↓sx0, sxE, encs, sevalprocAttr]
    repeat ((with_reducible refine Vc.go ?_ fun _ => ?_); (focus (first | omega | (simp only [InK]; omega) | (simp [InK]; done) | (simp [InK]; omega))); simp only [↓sx0, sxE, encs, sevalprocAttr])
    refine EndW.fn ?_ ?_ <;> simp only [sx4, encs, kpLL_map, sxR, sevalprocAttr] <;> (try simp [hit]) <;> (try omega)
end Go.Proofs.YteajjcbinnjgaaaGreatDoor
/-
 Chapter 6: numbers of texts, texts cut (the reference).
-/
namespace Go.Proofs.YteajjcbinnjgaaaGreatDoor
open Go Go.Vx
set_option linter.unusedSimpArgs false
set_option linter.unusedVariables false
set_option maxRecDepth 20000
theorem sIx_at {l : List UInt8} {j : Nat} {k : SV → Prop} (h : j < l.length) (hk : k (.v (.int .u8 ((l[j].toNat : Nat) : Int)))) : StrIx (bs l) (j : Int) k ⟨⟩ := StrIx.nat (s := bs l) (j := j) (by rw [bs_size]; exact h) hk
theorem sIx_0 {c : UInt8} {r : List UInt8} {k : SV → Prop} (hk : k (.v (.int .u8 ((c.toNat : Nat) : Int)))) : StrIx (bs (c :: r)) 0 k ⟨⟩ := sIx_at (l := c :: r) (j := 0) (by simp) hk
theorem sIx_x {l : List UInt8} {i : Int} {k : SV → Prop} (j : Nat) (x : UInt8) (hj : i = j) (h : l[j]? = some x) (hk : k (.v (.int .u8 ((x.toNat : Nat) : Int)))) : StrIx (bs l) i k ⟨⟩ := by
 obtain ⟨h1, h2⟩ := List.getElem?_eq_some_iff.1 h
 subst hj
 refine sIx_at h1 ?_
 rw [h2]; exact hk
theorem sIx_1 {c d : UInt8} {r : List UInt8} {k : SV → Prop} (hk : k (.v (.int .u8 ((d.toNat : Nat) : Int)))) : StrIx (bs (c :: d :: r)) 1 k ⟨⟩ := sIx_at (l := c :: d :: r) (j := 1) (by simp) hk
theorem u8_eq {a b : UInt8} : a = b ↔ a.toNat = b.toNat := UInt8.toNat_inj.symm
theorem valD_lt : ∀ (l : List UInt8) (acc : Nat), l.all dgB = true → valD acc l < (acc + 1) * 10 ^ l.length
 | [], acc, _ => by simp [valD]
 | c :: r, acc, h => by
  rw [List.all_cons, Bool.and_eq_true] at h
  have hc : 48 ≤ c.toNat ∧ c.toNat ≤ 57 := by simpa [dgB] using h.1
  have ih := valD_lt r (acc * 10 + (c.toNat - 48)) h.2
  rw [valD_cons, List.length_cons, Nat.pow_succ]
  refine Nat.lt_of_lt_of_le ih ?_
  rw [Nat.mul_comm (10 ^ r.length) 10, ← Nat.mul_assoc]
  exact Nat.mul_le_mul_right _ (by omega)
theorem valD_17 {a : List UInt8} (h : a.all dgB = true) (hl : a.length ≤ 17) : valD 0 a < 10 ^ 17 := by
 have := valD_lt a 0 h
 rw [Nat.zero_add, Nat.one_mul] at this
 exact Nat.lt_of_lt_of_le this (Nat.pow_le_pow_right (by decide) hl)
theorem valD_bd {a : List UInt8} (h : a.all dgB = true) (hl : a.length ≤ 18) : valD 0 a < 10 ^ 18 := (parse_of a 0 0 h (by decide) (by omega)).2
structure NS where
 a : List UInt8
 b : List UInt8
set_option maxHeartbeats 4000000 in
theorem number_R (l : List UInt8) (dg : Nat) (hd : dg ≤ 18) (hll : l.length ≤ 1000000) : Ctr Tryz.prog 58 [(.v (.string (bs l))), (.v (.int .i64 ((dg : Int))))] (fun rr => rr = ⟨.tup [(.v (.int .i64 ((numR l dg).1))), (.v (.bool ((numR l dg).2)))], []⟩) := by
 rcases l with _ | ⟨c, r⟩
 ·have hv : numR [] dg = (0, false) := by simp [numR]
  rw [hv]
  refine Ctr.of (rs := [.tmp 4, .tmp 5]) Tok true Tryz.func58 rfl rfl rfl rfl (by simp [ofDL]) (fun w0 kp => ?_)
  simp only [↓sx0, sxE, encs, sevalprocAttr]
  rw [bs_size]
  refine BrW.no (by simp) ?_
  simp only [↓sx0, sxE, encs, sevalprocAttr]
  rw [bs_size]
  refine BrW.yes (by simp) ?_
  simp only [↓sx0, sxE, encs, sevalprocAttr]
  refine EndW.fn ?_ ?_ <;> simp only [sx4, encs, kpLL_map, sxR, sevalprocAttr] <;> (try simp) <;> (try omega)
 ·refine Ctr.of (rs := [.tmp 4, .tmp 5]) Tok true Tryz.func58 rfl rfl rfl rfl (by simp [ofDL]) (fun w0 kp => ?_)
  simp only [↓sx0, sxE, encs, sevalprocAttr]
  rw [bs_size]
  refine BrW.yes (by simp) ?_
  simp only [↓sx0, sxE, encs, sevalprocAttr]
  refine sIx_0 ?_
  simp only [↓sx0, sxE, encs, sevalprocAttr]
  refine BrW.dec (fun h45 => ?_) (fun h45 => ?_)
  ·have hc : c = 45 := u8_eq.2 (by rw [show (45 : UInt8).toNat = 45 from rfl]; omega)
   subst hc
   have hsz1 : ((45 : UInt8) :: r).length = r.length + 1 := rfl
   simp only [↓sx0, sxE, encs, sevalprocAttr]
   rw [bs_size, hsz1]
   rcases r with _ | ⟨d, r⟩
   ·refine BrW.yes (by simp) ?_
    simp only [↓sx0, sxE, encs, sevalprocAttr]
    have hv : numR [45] dg = (0, false) := by simp [numR, numM]
    refine EndW.fn ?_ ?_ <;> simp only [sx4, encs, kpLL_map, sxR, sevalprocAttr] <;> (try simp [hv]) <;> (try omega)
   ·have hsz2 : ((45 : UInt8) :: d :: r).length = r.length + 2 := rfl
    refine BrW.no (by simp only [List.length_cons]; omega) ?_
    simp only [↓sx0, sxE, encs, sevalprocAttr]
    rw [bs_size, hsz2]
    repeat ((with_reducible refine Vc.go ?_ fun _ => ?_); (focus (first | omega | (simp only [InK]; omega) | (simp [InK]; done) | (simp [InK]; omega))); simp only [↓sx0, sxE, encs, sevalprocAttr])
    refine BrW.dec (fun hbig => ?_) (fun hbig => ?_)
    ·simp only [↓sx0, sxE, encs, sevalprocAttr]
     have hv : numR (45 :: d :: r) dg = (0, false) := by
      rw [numR, if_pos (show ((45 : UInt8) :: d :: r).head? = some 45 from rfl), List.tail_cons, numM, if_pos (.inr (.inl (by simp only [List.length_cons]; omega)))]
     refine EndW.fn ?_ ?_ <;> simp only [sx4, encs, kpLL_map, sxR, sevalprocAttr] <;> (try simp [hv]) <;> (try omega)
    ·simp only [↓sx0, sxE, encs, sevalprocAttr]
     refine sIx_1 ?_
     simp only [↓sx0, sxE, encs, sevalprocAttr]
     refine BrW.dec (fun h48 => ?_) (fun h48 => ?_)
     ·simp only [↓sx0, sxE, encs, sevalprocAttr]
      rw [bs_size, hsz2]
      refine BrW.yes (by omega) ?_
      simp only [↓sx0, sxE, encs, sevalprocAttr]
      have hd48 : d = 48 := u8_eq.2 (by rw [show (48 : UInt8).toNat = 48 from rfl]; omega)
      have hv : numR (45 :: d :: r) dg = (0, false) := by
       rw [numR, if_pos (show ((45 : UInt8) :: d :: r).head? = some 45 from rfl), List.tail_cons, numM, if_pos (.inr (.inr (by rw [hd48]; rfl)))]
      refine EndW.fn ?_ ?_ <;> simp only [sx4, encs, kpLL_map, sxR, sevalprocAttr] <;> (try simp [hv]) <;> (try omega)
     ·have hd48 : ¬ d = 48 := fun e => h48 (by rw [e]; rfl)
      simp only [↓sx0, sxE, encs, sevalprocAttr]
      have bad : (d :: r).all dgB = false → numR (45 :: d :: r) dg = (0, false) := fun h => by
       rw [numR, if_pos (show ((45 : UInt8) :: d :: r).head? = some 45 from rfl), List.tail_cons, numM, if_neg (by simp only [List.length_cons, List.head?_cons, Option.some.injEq]; rintro (h | h | h) <;> first | omega | exact hd48 h)]
       rw [if_neg (by rw [h]; simp)]
      have good : (d :: r).all dgB = true → numR (45 :: d :: r) dg = (-(valD 0 (d :: r) : Int), true) := fun h => by
       rw [numR, if_pos (show ((45 : UInt8) :: d :: r).head? = some 45 from rfl), List.tail_cons, numM, if_neg (by simp only [List.length_cons, List.head?_cons, Option.some.injEq]; rintro (h | h | h) <;> first | omega | exact hd48 h)]
       rw [if_pos h]
      refine LoopW.comp [0, 6, 7, 8] (by simp only [sx2, encs, sxR, sevalprocAttr] <;> (try simp) <;> (try omega)) ?_
      simp only [sx2, sxR, sevalprocAttr]
      refine LoopW.up Tok (fun s : NS => [(8, (.v (.int .i64 (1 + s.a.length)))), (7, (.v (.int .i64 ((valD 0 s.a : Int)))))]) (fun s => []) (fun s => []) (fun s => []) (fun s => d :: r = s.a ++ s.b ∧ s.a.all dgB = true) (fun s => s.b.length) (⟨[], d :: r⟩) (by simp only [sx2, encs, sxR, sevalprocAttr] <;> (try simp [valD, List.foldl_nil, encs]) <;> (try omega)) ?_ ?_
      ·exact ⟨rfl, rfl⟩
      rintro ⟨a, b⟩ ⟨hE, ha⟩
      simp only at hE ha
      have hlen : (d :: r).length = a.length + b.length := by rw [hE, List.length_append]
      have hrl : (d :: r).length = r.length + 1 := rfl
      have ha18 : a.length ≤ 18 := by omega
      have hbd := valD_bd ha ha18
      simp only [↓sx0, sxE, encs, sevalprocAttr]
      rw [bs_size, hsz2]
      rcases b with _ | ⟨x, b⟩
      ·rw [List.append_nil] at hE
       simp only [List.length_nil] at hlen
       refine BrW.no (by omega) ?_
       simp only [↓sx0, sxE, encs, sevalprocAttr]
       have hv : numR (45 :: d :: r) dg = (-(valD 0 a : Int), true) := by rw [good (by rw [hE]; exact ha), hE]
       repeat ((with_reducible refine Vc.go ?_ fun _ => ?_); (focus (first | omega | (simp only [InK]; omega) | (simp [InK]; done) | (simp [InK]; omega))); simp only [↓sx0, sxE, encs, sevalprocAttr])
       refine EndW.fn ?_ ?_ <;> simp only [sx4, encs, kpLL_map, sxR, sevalprocAttr] <;> (try simp [hv]) <;> (try omega)
      ·simp only [List.length_cons] at hlen
       refine BrW.yes (by omega) ?_
       simp only [↓sx0, sxE, encs, sevalprocAttr]
       have hb17 := valD_17 ha (by omega)
       have hx : (45 :: d :: r)[a.length + 1]? = some x := by
        rw [hE]; simp
       refine sIx_x (a.length + 1) x (by omega) hx ?_
       simp only [↓sx0, sxE, encs, sevalprocAttr]
       have badx : dgB x = false → numR (45 :: d :: r) dg = (0, false) := fun h => bad (by rw [hE, List.all_append, List.all_cons, h]; simp)
       refine BrW.dec (fun hl0 => ?_) (fun hl0 => ?_)
       ·simp only [↓sx0, sxE, encs, sevalprocAttr]
        have hv := badx (by simp only [dgB, decide_eq_false_iff_not]; omega)
        refine EndW.fn ?_ ?_ <;> simp only [sx4, encs, kpLL_map, sxR, sevalprocAttr] <;> (try simp [hv]) <;> (try omega)
       ·simp only [↓sx0, sxE, encs, sevalprocAttr]
        refine sIx_x (a.length + 1) x (by omega) hx ?_
        simp only [↓sx0, sxE, encs, sevalprocAttr]
        refine BrW.dec (fun hl1 => ?_) (fun hl1 => ?_)
        ·simp only [↓sx0, sxE, encs, sevalprocAttr]
         have hv := badx (by simp only [dgB, decide_eq_false_iff_not]; omega)
         refine EndW.fn ?_ ?_ <;> simp only [sx4, encs, kpLL_map, sxR, sevalprocAttr] <;> (try simp [hv]) <;> (try omega)
        ·simp only [↓sx0, sxE, encs, sevalprocAttr]
         repeat ((with_reducible refine Vc.go ?_ fun _ => ?_); (focus (first | omega | (simp only [InK]; omega) | (simp [InK]; done) | (simp [InK]; omega))); simp only [↓sx0, sxE, encs, sevalprocAttr])
         refine sIx_x (a.length + 1) x (by omega) hx ?_
         simp only [↓sx0, sxE, encs, sevalprocAttr]
         repeat ((with_reducible refine Vc.go ?_ fun _ => ?_); (focus (first | omega | (simp only [InK]; omega) | (simp [InK]; done) | (simp [InK]; omega))); simp only [↓sx0, sxE, encs, sevalprocAttr])
         have hvs : valD 0 (a ++ [x]) = valD 0 a * 10 + (x.toNat - 48) := by rw [valD_append]; rfl
         refine ⟨⟨a ++ [x], b⟩, StLe.auto (by simp only [sx2, encs, sxR, sevalprocAttr] <;> (try simp [hvs, encs]) <;> (try omega)), ?_, ?_⟩
         ·refine ⟨by simp only [hE, List.append_assoc, List.singleton_append], ?_⟩
          simp only [List.all_append, List.all_cons, List.all_nil, ha, dgB, Bool.true_and, Bool.and_true, decide_eq_true_eq]
          omega
         ·simp
  ·have hc : ¬ c = 45 := fun e => h45 (by rw [e]; rfl)
   have hsz2 : (c :: r).length = r.length + 1 := rfl
   simp only [↓sx0, sxE, encs, sevalprocAttr]
   rw [bs_size, hsz2]
   refine BrW.no (by omega) ?_
   simp only [↓sx0, sxE, encs, sevalprocAttr]
   rw [bs_size, hsz2]
   repeat ((with_reducible refine Vc.go ?_ fun _ => ?_); (focus (first | omega | (simp only [InK]; omega) | (simp [InK]; done) | (simp [InK]; omega))); simp only [↓sx0, sxE, encs, sevalprocAttr])
   refine BrW.dec (fun hbig => ?_) (fun hbig => ?_)
   ·simp only [↓sx0, sxE, encs, sevalprocAttr]
    have hv : numR (c :: r) dg = (0, false) := by
     rw [numR, if_neg (by simp [hc]), if_pos (.inr (.inl (by simp only [List.length_cons]; omega)))]
    refine EndW.fn ?_ ?_ <;> simp only [sx4, encs, kpLL_map, sxR, sevalprocAttr] <;> (try simp [hv]) <;> (try omega)
   ·simp only [↓sx0, sxE, encs, sevalprocAttr]
    refine sIx_0 ?_
    simp only [↓sx0, sxE, encs, sevalprocAttr]
    have key : ¬ (c = 48 ∧ 1 < (c :: r).length) → ¬ (c :: r = [] ∨ dg < (c :: r).length ∨ ((c :: r).head? = some 48 ∧ 1 < (c :: r).length)) := fun h => by
     rintro (h1 | h1 | h1)
     ·cases h1
     ·simp only [List.length_cons] at h1; omega
     ·exact h ⟨by simpa using h1.1, h1.2⟩
    refine BrW.dec (fun h48 => ?_) (fun h48 => ?_)
    ·simp only [↓sx0, sxE, encs, sevalprocAttr]
     rw [bs_size, hsz2]
     have hd48 : c = 48 := u8_eq.2 (by rw [show (48 : UInt8).toNat = 48 from rfl]; omega)
     refine BrW.dec (fun hone => ?_) (fun hone => ?_)
     ·simp only [↓sx0, sxE, encs, sevalprocAttr]
      have hv : numR (c :: r) dg = (0, false) := by
       rw [numR, if_neg (by simp [hc]), if_pos (.inr (.inr ⟨by rw [hd48]; rfl, by simp only [List.length_cons]; omega⟩))]
      refine EndW.fn ?_ ?_ <;> simp only [sx4, encs, kpLL_map, sxR, sevalprocAttr] <;> (try simp [hv]) <;> (try omega)
     ·have hno := key (fun h => hone (by have := h.2; simp only [List.length_cons] at this; omega))
      simp only [↓sx0, sxE, encs, sevalprocAttr]
      have bad : (c :: r).all dgB = false → numR (c :: r) dg = (0, false) := fun h => by
       rw [numR, if_neg (by simp [hc]), if_neg hno]
       rw [if_neg (by rw [h]; simp)]
      have good : (c :: r).all dgB = true → numR (c :: r) dg = ((valD 0 (c :: r) : Int), true) := fun h => by
       rw [numR, if_neg (by simp [hc]), if_neg hno]
       rw [if_pos h]
      refine LoopW.comp [0, 6, 7, 8] (by simp only [sx2, encs, sxR, sevalprocAttr] <;> (try simp) <;> (try omega)) ?_
      simp only [sx2, sxR, sevalprocAttr]
      refine LoopW.up Tok (fun s : NS => [(8, (.v (.int .i64 ( s.a.length)))), (7, (.v (.int .i64 ((valD 0 s.a : Int)))))]) (fun s => []) (fun s => []) (fun s => []) (fun s => c :: r = s.a ++ s.b ∧ s.a.all dgB = true) (fun s => s.b.length) (⟨[], c :: r⟩) (by simp only [sx2, encs, sxR, sevalprocAttr] <;> (try simp [valD, List.foldl_nil, encs]) <;> (try omega)) ?_ ?_
      ·exact ⟨rfl, rfl⟩
      rintro ⟨a, b⟩ ⟨hE, ha⟩
      simp only at hE ha
      have hlen : (c :: r).length = a.length + b.length := by rw [hE, List.length_append]
      have hrl : (c :: r).length = r.length + 1 := rfl
      have ha18 : a.length ≤ 18 := by omega
      have hbd := valD_bd ha ha18
      simp only [↓sx0, sxE, encs, sevalprocAttr]
      rw [bs_size, hsz2]
      rcases b with _ | ⟨x, b⟩
      ·rw [List.append_nil] at hE
       simp only [List.length_nil] at hlen
       refine BrW.no (by omega) ?_
       simp only [↓sx0, sxE, encs, sevalprocAttr]
       have hv : numR (c :: r) dg = ((valD 0 a : Int), true) := by rw [good (by rw [hE]; exact ha), hE]
       skip
       refine EndW.fn ?_ ?_ <;> simp only [sx4, encs, kpLL_map, sxR, sevalprocAttr] <;> (try simp [hv]) <;> (try omega)
      ·simp only [List.length_cons] at hlen
       refine BrW.yes (by omega) ?_
       simp only [↓sx0, sxE, encs, sevalprocAttr]
       have hb17 := valD_17 ha (by omega)
       have hx : (c :: r)[a.length]? = some x := by
        rw [hE]; simp
       refine sIx_x (a.length) x (by omega) hx ?_
       simp only [↓sx0, sxE, encs, sevalprocAttr]
       have badx : dgB x = false → numR (c :: r) dg = (0, false) := fun h => bad (by rw [hE, List.all_append, List.all_cons, h]; simp)
       refine BrW.dec (fun hl0 => ?_) (fun hl0 => ?_)
       ·simp only [↓sx0, sxE, encs, sevalprocAttr]
        have hv := badx (by simp only [dgB, decide_eq_false_iff_not]; omega)
        refine EndW.fn ?_ ?_ <;> simp only [sx4, encs, kpLL_map, sxR, sevalprocAttr] <;> (try simp [hv]) <;> (try omega)
       ·simp only [↓sx0, sxE, encs, sevalprocAttr]
        refine sIx_x (a.length) x (by omega) hx ?_
        simp only [↓sx0, sxE, encs, sevalprocAttr]
        refine BrW.dec (fun hl1 => ?_) (fun hl1 => ?_)
        ·simp only [↓sx0, sxE, encs, sevalprocAttr]
         have hv := badx (by simp only [dgB, decide_eq_false_iff_not]; omega)
         refine EndW.fn ?_ ?_ <;> simp only [sx4, encs, kpLL_map, sxR, sevalprocAttr] <;> (try simp [hv]) <;> (try omega)
        ·simp only [↓sx0, sxE, encs, sevalprocAttr]
         repeat ((with_reducible refine Vc.go ?_ fun _ => ?_); (focus (first | omega | (simp only [InK]; omega) | (simp [InK]; done) | (simp [InK]; omega))); simp only [↓sx0, sxE, encs, sevalprocAttr])
         refine sIx_x (a.length) x (by omega) hx ?_
         simp only [↓sx0, sxE, encs, sevalprocAttr]
         repeat ((with_reducible refine Vc.go ?_ fun _ => ?_); (focus (first | omega | (simp only [InK]; omega) | (simp [InK]; done) | (simp [InK]; omega))); simp only [↓sx0, sxE, encs, sevalprocAttr])
         have hvs : valD 0 (a ++ [x]) = valD 0 a * 10 + (x.toNat - 48) := by rw [valD_append]; rfl
         refine ⟨⟨a ++ [x], b⟩, StLe.auto (by simp only [sx2, encs, sxR, sevalprocAttr] <;> (try simp [hvs, encs]) <;> (try omega)), ?_, ?_⟩
         ·refine ⟨by simp only [hE, List.append_assoc, List.singleton_append], ?_⟩
          simp only [List.all_append, List.all_cons, List.all_nil, ha, dgB, Bool.true_and, Bool.and_true, decide_eq_true_eq]
          omega
         ·simp
    ·have hno := key (fun h => h48 (by rw [h.1]; rfl))
     simp only [↓sx0, sxE, encs, sevalprocAttr]
     have bad : (c :: r).all dgB = false → numR (c :: r) dg = (0, false) := fun h => by
      rw [numR, if_neg (by simp [hc]), if_neg hno]
      rw [if_neg (by rw [h]; simp)]
     have good : (c :: r).all dgB = true → numR (c :: r) dg = ((valD 0 (c :: r) : Int), true) := fun h => by
      rw [numR, if_neg (by simp [hc]), if_neg hno]
      rw [if_pos h]
     refine LoopW.comp [0, 6, 7, 8] (by simp only [sx2, encs, sxR, sevalprocAttr] <;> (try simp) <;> (try omega)) ?_
     simp only [sx2, sxR, sevalprocAttr]
     refine LoopW.up Tok (fun s : NS => [(8, (.v (.int .i64 ( s.a.length)))), (7, (.v (.int .i64 ((valD 0 s.a : Int)))))]) (fun s => []) (fun s => []) (fun s => []) (fun s => c :: r = s.a ++ s.b ∧ s.a.all dgB = true) (fun s => s.b.length) (⟨[], c :: r⟩) (by simp only [sx2, encs, sxR, sevalprocAttr] <;> (try simp [valD, List.foldl_nil, encs]) <;> (try omega)) ?_ ?_
     ·exact ⟨rfl, rfl⟩
     rintro ⟨a, b⟩ ⟨hE, ha⟩
     simp only at hE ha
     have hlen : (c :: r).length = a.length + b.length := by rw [hE, List.length_append]
     have hrl : (c :: r).length = r.length + 1 := rfl
     have ha18 : a.length ≤ 18 := by omega
     have hbd := valD_bd ha ha18
     simp only [↓sx0, sxE, encs, sevalprocAttr]
     rw [bs_size, hsz2]
     rcases b with _ | ⟨x, b⟩
     ·rw [List.append_nil] at hE
      simp only [List.length_nil] at hlen
      refine BrW.no (by omega) ?_
      simp only [↓sx0, sxE, encs, sevalprocAttr]
      have hv : numR (c :: r) dg = ((valD 0 a : Int), true) := by rw [good (by rw [hE]; exact ha), hE]
      skip
      refine EndW.fn ?_ ?_ <;> simp only [sx4, encs, kpLL_map, sxR, sevalprocAttr] <;> (try simp [hv]) <;> (try omega)
     ·simp only [List.length_cons] at hlen
      refine BrW.yes (by omega) ?_
      simp only [↓sx0, sxE, encs, sevalprocAttr]
      have hb17 := valD_17 ha (by omega)
      have hx : (c :: r)[a.length]? = some x := by
       rw [hE]; simp
      refine sIx_x (a.length) x (by omega) hx ?_
      simp only [↓sx0, sxE, encs, sevalprocAttr]
      have badx : dgB x = false → numR (c :: r) dg = (0, false) := fun h => bad (by rw [hE, List.all_append, List.all_cons, h]; simp)
      refine BrW.dec (fun hl0 => ?_) (fun hl0 => ?_)
      ·simp only [↓sx0, sxE, encs, sevalprocAttr]
       have hv := badx (by simp only [dgB, decide_eq_false_iff_not]; omega)
       refine EndW.fn ?_ ?_ <;> simp only [sx4, encs, kpLL_map, sxR, sevalprocAttr] <;> (try simp [hv]) <;> (try omega)
      ·simp only [↓sx0, sxE, encs, sevalprocAttr]
       refine sIx_x (a.length) x (by omega) hx ?_
       simp only [↓sx0, sxE, encs, sevalprocAttr]
       refine BrW.dec (fun hl1 => ?_) (fun hl1 => ?_)
       ·simp only [↓sx0, sxE, encs, sevalprocAttr]
        have hv := badx (by simp only [dgB, decide_eq_false_iff_not]; omega)
        refine EndW.fn ?_ ?_ <;> simp only [sx4, encs, kpLL_map, sxR, sevalprocAttr] <;> (try simp [hv]) <;> (try omega)
       ·simp only [↓sx0, sxE, encs, sevalprocAttr]
        repeat ((with_reducible refine Vc.go ?_ fun _ => ?_); (focus (first | omega | (simp only [InK]; omega) | (simp [InK]; done) | (simp [InK]; omega))); simp only [↓sx0, sxE, encs, sevalprocAttr])
        refine sIx_x (a.length) x (by omega) hx ?_
        simp only [↓sx0, sxE, encs, sevalprocAttr]
        repeat ((with_reducible refine Vc.go ?_ fun _ => ?_); (focus (first | omega | (simp only [InK]; omega) | (simp [InK]; done) | (simp [InK]; omega))); simp only [↓sx0, sxE, encs, sevalprocAttr])
        have hvs : valD 0 (a ++ [x]) = valD 0 a * 10 + (x.toNat - 48) := by rw [valD_append]; rfl
        refine ⟨⟨a ++ [x], b⟩, StLe.auto (by simp only [sx2, encs, sxR, sevalprocAttr] <;> (try simp [hvs, encs]) <;> (try omega)), ?_, ?_⟩
        ·refine ⟨by simp only [hE, List.append_assoc, List.singleton_append], ?_⟩
         simp only [List.all_append, List.all_cons, List.all_nil, ha, dgB, Bool.true_and, Bool.and_true, decide_eq_true_eq]
         omega
        ·simp
end Go.Proofs.YteajjcbinnjgaaaGreatDoor
/-
 Chapter 6: texts cut (the reference).
-/
namespace Go.Proofs.YteajjcbinnjgaaaGreatDoor
open Go Go.Vx
set_option linter.unusedSimpArgs false
set_option linter.unusedVariables false
set_option maxRecDepth 20000
def eT (p : List UInt8) : List D := [(.v (.string (bs p)))]
theorem eT_def : ∀ p, eT p = [(.v (.string (bs p)))] := fun _ => rfl
theorem bs_ext (A p B : List UInt8) (i j : Nat) (hi : i = A.length) (hj : j = A.length + p.length) : (bs (A ++ p ++ B)).extract i j = bs p := by
 subst hi hj
 apply ByteArray.ext
 simp only [bs, ByteArray.data_extract]
 apply Array.toList_inj.1
 simp [List.extract_eq_take_drop, List.drop_append, List.take_append]
structure CS where
 A : List UInt8
 p : List UInt8
 b : List UInt8
 O : List (List UInt8)
set_option maxHeartbeats 4000000 in
theorem cut_R (l : List UInt8) (c : UInt8) (hll : l.length ≤ 1000000) : Ctr Tryz.prog 31 [(.v (.string (bs l))), .v (.int .u8 (c.toNat : Int))] (fun rr => rr = ⟨.sl true 1 ((cutL c [] l).map eT), []⟩) := by
 have encs := And.intro encs eT_def
 refine Ctr.of (rs := [.tmp 4]) Tok true Tryz.func31 rfl rfl rfl rfl (by simp [ofDL]) (fun w0 kp => ?_)
 simp only [↓sx0, sxE, encs, sevalprocAttr]
 refine LoopW.comp [0, 1, 5, 6, 7] (by simp only [sx2, encs, sxR, sevalprocAttr] <;> (try simp) <;> (try omega)) ?_
 simp only [sx2, sxR, sevalprocAttr]
 refine LoopW.up Tok (fun s : CS => [(5, .row 0), (6, (.v (.int .i64 ((s.A.length : Int))))), (7, (.v (.int .i64 ((s.A.length : Int) + s.p.length))))]) (fun s => []) (fun s => []) (fun s => [.own 9 1 (s.O.map eT)]) (fun s => l = s.A ++ s.p ++ s.b ∧ cutL c [] l = s.O ++ cutL c s.p s.b ∧ s.O.length ≤ s.A.length) (fun s => s.b.length) (⟨[], [], l, []⟩) (by simp only [sx2, encs, sxR, sevalprocAttr] <;> (try simp) <;> (try omega)) ?_ ?_
 ·exact ⟨rfl, rfl, Nat.le_refl _⟩
 rintro ⟨A, p, b, O⟩ ⟨hl, hc, hO⟩
 simp only at hl hc hO
 have hlen : l.length = A.length + p.length + b.length := by rw [hl]; simp [Nat.add_assoc]
 simp only [↓sx0, sxE, encs, sevalprocAttr]
 rw [bs_size]
 rcases b with _ | ⟨x, b⟩
 ·simp only [List.length_nil] at hlen
  refine BrW.no (by omega) ?_
  simp only [↓sx0, sxE, encs, sevalprocAttr]
  have hsz := bs_size l
  have hex : ∀ i j, i = A.length → j = A.length + p.length → (bs l).extract i j = bs p := fun i j h1 h2 => by rw [hl]; exact bs_ext A p [] i j h1 h2
  repeat ((with_reducible refine Vc.go ?_ fun _ => ?_); (focus (first | omega | (simp only [InK]; omega) | (simp [InK]; done) | (simp [InK]; omega))); simp only [↓sx0, sxE, encs, sevalprocAttr])
  rw [hex _ _ (by omega) (by omega)]
  have hcc : cutL c [] l = O ++ [p] := by rw [hc, cutL]
  refine EndW.fn ?_ ?_ <;> simp only [sx4, encs, kpLL_map, sxR, sevalprocAttr] <;> (try simp [hcc, eT]) <;> (try omega)
 ·simp only [List.length_cons] at hlen
  refine BrW.yes (by omega) ?_
  simp only [↓sx0, sxE, encs, sevalprocAttr]
  have hx : l[A.length + p.length]? = some x := by rw [hl]; simp
  refine sIx_x (A.length + p.length) x (by omega) hx ?_
  simp only [↓sx0, sxE, encs, sevalprocAttr]
  have hsz := bs_size l
  refine BrW.dec (fun heq => ?_) (fun heq => ?_)
  ·have heq : x = c := u8_eq.2 (by omega)
   subst heq
   simp only [↓sx0, sxE, encs, sevalprocAttr]
   have hex : ∀ i j, i = A.length → j = A.length + p.length → (bs l).extract i j = bs p := fun i j h1 h2 => by rw [hl]; exact bs_ext A p (x :: b) i j h1 h2
   repeat ((with_reducible refine Vc.go ?_ fun _ => ?_); (focus (first | omega | (simp only [InK]; omega) | (simp [InK]; done) | (simp [InK]; omega))); simp only [↓sx0, sxE, encs, sevalprocAttr])
   rw [hex _ _ (by omega) (by omega)]
   repeat ((with_reducible refine Vc.go ?_ fun _ => ?_); (focus (first | omega | (simp only [InK]; omega) | (simp [InK]; done) | (simp [InK]; omega))); simp only [↓sx0, sxE, encs, sevalprocAttr])
   refine ⟨⟨A ++ p ++ [x], [], b, O ++ [p]⟩, StLe.auto (by simp only [sx2, encs, sxR, sevalprocAttr] <;> (try simp [eT, encs]) <;> (try omega)), ?_, ?_⟩
   ·refine ⟨by rw [hl]; simp, ?_, ?_⟩
    ·rw [hc, cutL, if_pos rfl]; simp
    ·simp; omega
   ·simp
  ·have heq : ¬ x = c := fun e => heq (by rw [e])
   simp only [↓sx0, sxE, encs, sevalprocAttr]
   repeat ((with_reducible refine Vc.go ?_ fun _ => ?_); (focus (first | omega | (simp only [InK]; omega) | (simp [InK]; done) | (simp [InK]; omega))); simp only [↓sx0, sxE, encs, sevalprocAttr])
   refine ⟨⟨A, p ++ [x], b, O⟩, StLe.auto (by simp only [sx2, encs, sxR, sevalprocAttr] <;> (try simp) <;> (try omega)), ?_, ?_⟩
   ·refine ⟨by rw [hl]; simp, ?_, hO⟩
    rw [hc, cutL, if_neg heq]
   ·simp
end Go.Proofs.YteajjcbinnjgaaaGreatDoor
