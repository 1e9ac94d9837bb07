/-
 Chapter 9: what the library's functions on texts and numbers do, as contracts.
-/
import Derived.Test.YtfojggadhhaleaaGreatDoorVB9
import Derived.Test.YtfojggadhhaleaaGreatDoorVGlob
import Derived.Test.YtfojggadhhaleaaGreatDoorVCut
import Derived.Test.YtfojggadhhaleaaGreatDoorVNum
import Derived.Shelf.Strconv.Itoa3
import Derived.Shelf.Strconv.AtoiAll
import Derived.Shelf.Small.Strs
import Derived.Shelf.Strings.Split
import Derived.Shelf.Strings.Prefix
import Derived.Shelf.Strings.OnBuilder
import Derived.Lib.LaidTab
import Derived.WalkKit
namespace Go.Proofs.YtfojggadhhaleaaGreatDoor
open Go Go.Vx Go.Shelf Go.RowKit Go.Sort
set_option linter.unusedSimpArgs false
set_option linter.unusedVariables false
def laysItoaR : Ren := ⟨fun | 171 => 22 | 243 => 52 | 246 => 74 | 283 => 89 | 284 => 90 | 285 => 91 | 286 => 92 | 129 => 103 | 317 => 102 | 318 => 104 | 319 => 105 | 320 => 106 | 337 => 114 | 338 => 115 | n => n, fun | 3 => 3 | 9 => 9 | 2 => 2 | 4 => 4 | 171 => 144 | 0 => 0 | 53 => 145 | 37 => 111 | 5 => 5 | 173 => 148 | 212 => 165 | 51 => 166 | 20 => 20 | 213 => 167 | 46 => 159 | 232 => 180 | 233 => 181 | n => n, fun | 17 => 2 | 18 => 6 | 19 => 7 | n => n⟩
set_option maxRecDepth 100000 in
theorem laysItoa : LaysM.n171 Tryz.prog laysItoaR := { mixed := rfl, f129 := Tryz.func103, f171 := Tryz.func22, f243 := Tryz.func52, f246 := Tryz.func74, f283 := Tryz.func89, f284 := Tryz.func90, f285 := Tryz.func91, f286 := Tryz.func92, f317 := Tryz.func102, f318 := Tryz.func104, f319 := Tryz.func105, f320 := Tryz.func106, f337 := Tryz.func114, f338 := Tryz.func115, t0 := Tryz.underlying0, a0 := Tryz.isAgg0, z0 := Tryz.sizeOf0, v0 := Tryz.zeroValue0, t2 := Tryz.underlying2, a2 := Tryz.isAgg2, z2 := Tryz.sizeOf2, v2 := Tryz.zeroValue2, t3 := Tryz.underlying3, a3 := Tryz.isAgg3, z3 := Tryz.sizeOf3, v3 := Tryz.zeroValue3, t4 := Tryz.underlying4, a4 := Tryz.isAgg4, z4 := Tryz.sizeOf4, v4 := Tryz.zeroValue4, t5 := Tryz.underlying5, a5 := Tryz.isAgg5, z5 := Tryz.sizeOf5, v5 := Tryz.zeroValue5, t9 := Tryz.underlying9, a9 := Tryz.isAgg9, z9 := Tryz.sizeOf9, v9 := Tryz.zeroValue9, t20 := Tryz.underlying20, a20 := Tryz.isAgg20, z20 := Tryz.sizeOf20, v20 := Tryz.zeroValue20, t37 := Tryz.underlying111, a37 := Tryz.isAgg111, z37 := Tryz.sizeOf111, v37 := Tryz.zeroValue111, t46 := Tryz.underlying159, a46 := Tryz.isAgg159, z46 := Tryz.sizeOf159, v46 := Tryz.zeroValue159, t51 := Tryz.underlying166, a51 := Tryz.isAgg166, z51 := Tryz.sizeOf166, v51 := Tryz.zeroValue166, t53 := Tryz.underlying145, a53 := Tryz.isAgg145, z53 := Tryz.sizeOf145, v53 := Tryz.zeroValue145, t171 := Tryz.underlying144, a171 := Tryz.isAgg144, z171 := Tryz.sizeOf144, v171 := Tryz.zeroValue144, t173 := Tryz.underlying148, a173 := Tryz.isAgg148, z173 := Tryz.sizeOf148, v173 := Tryz.zeroValue148, t212 := Tryz.underlying165, a212 := Tryz.isAgg165, z212 := Tryz.sizeOf165, v212 := Tryz.zeroValue165, t213 := Tryz.underlying167, a213 := Tryz.isAgg167, z213 := Tryz.sizeOf167, t232 := Tryz.underlying180, a232 := Tryz.isAgg180, z232 := Tryz.sizeOf180, v232 := Tryz.zeroValue180, t233 := Tryz.underlying181, a233 := Tryz.isAgg181, z233 := Tryz.sizeOf181, v233 := Tryz.zeroValue181, g17 := by kernel_rfl, g18 := by kernel_rfl, g19 := by kernel_rfl, i0 := by kernel_rfl, i2 := by kernel_rfl, i3 := by kernel_rfl, i4 := by kernel_rfl, i5 := by kernel_rfl, i9 := by kernel_rfl, i20 := by kernel_rfl, i37 := by kernel_rfl, i46 := by kernel_rfl, i51 := by kernel_rfl, i53 := by kernel_rfl, i171 := by kernel_rfl, i173 := by kernel_rfl, i212 := by kernel_rfl, i232 := by kernel_rfl, i233 := by kernel_rfl, m17 := by kernel_rfl, m18 := by kernel_rfl, m19 := by kernel_rfl }
def laysSplitR : Ren := ⟨fun | 146 => 25 | 221 => 56 | 268 => 77 | 138 => 78 | 143 => 79 | 195 => 95 | 197 => 96 | 218 => 97 | 219 => 98 | 260 => 107 | 217 => 108 | 225 => 109 | 224 => 110 | 267 => 111 | 266 => 116 | 314 => 117 | n => n, fun | 9 => 9 | 31 => 22 | 3 => 3 | 4 => 4 | 0 => 0 | 105 => 154 | 21 => 21 | 5 => 5 | 46 => 159 | 119 => 174 | 139 => 177 | 138 => 176 | 146 => 178 | 51 => 166 | n => n, fun | 1 => 3 | 3 => 4 | 4 => 5 | n => n⟩
set_option maxRecDepth 100000 in
theorem laysSplit : Lays.n146 Tryz.prog laysSplitR := { mixed := rfl, f138 := Tryz.func78, f143 := Tryz.func79, f146 := Tryz.func25, f195 := Tryz.func95, f197 := Tryz.func96, f217 := Tryz.func108, f218 := Tryz.func97, f219 := Tryz.func98, f221 := Tryz.func56, f224 := Tryz.func110, f225 := Tryz.func109, f260 := Tryz.func107, f266 := Tryz.func116, f267 := Tryz.func111, f268 := Tryz.func77, f314 := Tryz.func117, t0 := Tryz.underlying0, a0 := Tryz.isAgg0, z0 := Tryz.sizeOf0, v0 := Tryz.zeroValue0, t3 := Tryz.underlying3, a3 := Tryz.isAgg3, z3 := Tryz.sizeOf3, v3 := Tryz.zeroValue3, t4 := Tryz.underlying4, a4 := Tryz.isAgg4, z4 := Tryz.sizeOf4, v4 := Tryz.zeroValue4, t5 := Tryz.underlying5, a5 := Tryz.isAgg5, z5 := Tryz.sizeOf5, v5 := Tryz.zeroValue5, t9 := Tryz.underlying9, a9 := Tryz.isAgg9, z9 := Tryz.sizeOf9, v9 := Tryz.zeroValue9, t21 := Tryz.underlying21, a21 := Tryz.isAgg21, z21 := Tryz.sizeOf21, v21 := Tryz.zeroValue21, t31 := Tryz.underlying22, a31 := Tryz.isAgg22, z31 := Tryz.sizeOf22, v31 := Tryz.zeroValue22, t46 := Tryz.underlying159, a46 := Tryz.isAgg159, z46 := Tryz.sizeOf159, v46 := Tryz.zeroValue159, t51 := Tryz.underlying166, a51 := Tryz.isAgg166, z51 := Tryz.sizeOf166, v51 := Tryz.zeroValue166, t105 := Tryz.underlying154, a105 := Tryz.isAgg154, z105 := Tryz.sizeOf154, v105 := Tryz.zeroValue154, t119 := Tryz.underlying174, a119 := Tryz.isAgg174, z119 := Tryz.sizeOf174, t138 := Tryz.underlying176, a138 := Tryz.isAgg176, z138 := Tryz.sizeOf176, v138 := Tryz.zeroValue176, t139 := Tryz.underlying177, a139 := Tryz.isAgg177, z139 := Tryz.sizeOf177, v139 := Tryz.zeroValue177, t146 := Tryz.underlying178, a146 := Tryz.isAgg178, z146 := Tryz.sizeOf178, v146 := Tryz.zeroValue178, g1 := by kernel_rfl, g3 := by kernel_rfl, g4 := by kernel_rfl }
def laysAtoiR : Ren := ⟨fun | 172 => 26 | 244 => 57 | 245 => 58 | 247 => 80 | 279 => 81 | 280 => 82 | 281 => 83 | 282 => 84 | 287 => 99 | 316 => 100 | 171 => 22 | 205 => 101 | 321 => 112 | 322 => 113 | 243 => 52 | 246 => 74 | 283 => 89 | 284 => 90 | 285 => 91 | 286 => 92 | 129 => 103 | 317 => 102 | 318 => 104 | 319 => 105 | 320 => 106 | 337 => 114 | 338 => 115 | n => n, fun | 9 => 9 | 3 => 3 | 75 => 72 | 76 => 73 | 4 => 4 | 5 => 5 | 167 => 134 | 37 => 111 | 0 => 0 | 85 => 135 | 2 => 2 | 168 => 137 | 53 => 145 | 175 => 157 | 46 => 159 | 210 => 162 | 127 => 131 | 145 => 172 | 143 => 170 | 21 => 21 | 171 => 144 | 173 => 148 | 212 => 165 | 51 => 166 | 20 => 20 | 213 => 167 | 232 => 180 | 233 => 181 | 80 => 115 | n => n, fun | 15 => 0 | 16 => 1 | 17 => 2 | 18 => 6 | 19 => 7 | n => n⟩
set_option maxRecDepth 100000 in
theorem laysAtoi : LaysC.n172 Tryz.prog laysAtoiR := { mixed := rfl, f129 := Tryz.func103, f171 := Tryz.func22, f172 := Tryz.func26, f205 := Tryz.func101, f243 := Tryz.func52, f244 := Tryz.func57, f245 := Tryz.func58, f246 := Tryz.func74, f247 := Tryz.func80, f279 := Tryz.func81, f280 := Tryz.func82, f281 := Tryz.func83, f282 := Tryz.func84, f283 := Tryz.func89, f284 := Tryz.func90, f285 := Tryz.func91, f286 := Tryz.func92, f287 := Tryz.func99, f316 := Tryz.func100, f317 := Tryz.func102, f318 := Tryz.func104, f319 := Tryz.func105, f320 := Tryz.func106, f321 := Tryz.func112, f322 := Tryz.func113, f337 := Tryz.func114, f338 := Tryz.func115, t0 := Tryz.underlying0, a0 := Tryz.isAgg0, z0 := Tryz.sizeOf0, v0 := Tryz.zeroValue0, t2 := Tryz.underlying2, a2 := Tryz.isAgg2, z2 := Tryz.sizeOf2, v2 := Tryz.zeroValue2, t3 := Tryz.underlying3, a3 := Tryz.isAgg3, z3 := Tryz.sizeOf3, v3 := Tryz.zeroValue3, t4 := Tryz.underlying4, a4 := Tryz.isAgg4, z4 := Tryz.sizeOf4, v4 := Tryz.zeroValue4, t5 := Tryz.underlying5, a5 := Tryz.isAgg5, z5 := Tryz.sizeOf5, v5 := Tryz.zeroValue5, t9 := Tryz.underlying9, a9 := Tryz.isAgg9, z9 := Tryz.sizeOf9, v9 := Tryz.zeroValue9, t20 := Tryz.underlying20, a20 := Tryz.isAgg20, z20 := Tryz.sizeOf20, v20 := Tryz.zeroValue20, t21 := Tryz.underlying21, a21 := Tryz.isAgg21, z21 := Tryz.sizeOf21, v21 := Tryz.zeroValue21, t37 := Tryz.underlying111, a37 := Tryz.isAgg111, z37 := Tryz.sizeOf111, v37 := Tryz.zeroValue111, t46 := Tryz.underlying159, a46 := Tryz.isAgg159, z46 := Tryz.sizeOf159, v46 := Tryz.zeroValue159, t51 := Tryz.underlying166, a51 := Tryz.isAgg166, z51 := Tryz.sizeOf166, v51 := Tryz.zeroValue166, t53 := Tryz.underlying145, a53 := Tryz.isAgg145, z53 := Tryz.sizeOf145, v53 := Tryz.zeroValue145, t75 := Tryz.underlying72, a75 := Tryz.isAgg72, z75 := Tryz.sizeOf72, v75 := Tryz.zeroValue72, t76 := Tryz.underlying73, a76 := Tryz.isAgg73, z76 := Tryz.sizeOf73, v76 := Tryz.zeroValue73, t85 := Tryz.underlying135, a85 := Tryz.isAgg135, z85 := Tryz.sizeOf135, v85 := Tryz.zeroValue135, t127 := Tryz.underlying131, a127 := Tryz.isAgg131, z127 := Tryz.sizeOf131, v127 := Tryz.zeroValue131, t143 := Tryz.underlying170, a143 := Tryz.isAgg170, z143 := Tryz.sizeOf170, v143 := Tryz.zeroValue170, t145 := Tryz.underlying172, a145 := Tryz.isAgg172, z145 := Tryz.sizeOf172, v145 := Tryz.zeroValue172, t167 := Tryz.underlying134, a167 := Tryz.isAgg134, z167 := Tryz.sizeOf134, v167 := Tryz.zeroValue134, t168 := Tryz.underlying137, a168 := Tryz.isAgg137, z168 := Tryz.sizeOf137, v168 := Tryz.zeroValue137, t171 := Tryz.underlying144, a171 := Tryz.isAgg144, z171 := Tryz.sizeOf144, v171 := Tryz.zeroValue144, t173 := Tryz.underlying148, a173 := Tryz.isAgg148, z173 := Tryz.sizeOf148, v173 := Tryz.zeroValue148, t175 := Tryz.underlying157, a175 := Tryz.isAgg157, z175 := Tryz.sizeOf157, v175 := Tryz.zeroValue157, t210 := Tryz.underlying162, a210 := Tryz.isAgg162, z210 := Tryz.sizeOf162, v210 := Tryz.zeroValue162, t212 := Tryz.underlying165, a212 := Tryz.isAgg165, z212 := Tryz.sizeOf165, v212 := Tryz.zeroValue165, t213 := Tryz.underlying167, a213 := Tryz.isAgg167, z213 := Tryz.sizeOf167, t232 := Tryz.underlying180, a232 := Tryz.isAgg180, z232 := Tryz.sizeOf180, v232 := Tryz.zeroValue180, t233 := Tryz.underlying181, a233 := Tryz.isAgg181, z233 := Tryz.sizeOf181, v233 := Tryz.zeroValue181, g15 := by kernel_rfl, g16 := by kernel_rfl, g17 := by kernel_rfl, g18 := by kernel_rfl, g19 := by kernel_rfl, t80 := Tryz.underlying115, a80 := Tryz.isAgg115, z80 := Tryz.sizeOf115, v80 := Tryz.zeroValue115, i0 := by kernel_rfl, i2 := by kernel_rfl, i3 := by kernel_rfl, i4 := by kernel_rfl, i5 := by kernel_rfl, i9 := by kernel_rfl, i20 := by kernel_rfl, i21 := by kernel_rfl, i37 := by kernel_rfl, i46 := by kernel_rfl, i51 := by kernel_rfl, i53 := by kernel_rfl, i75 := by kernel_rfl, i76 := by kernel_rfl, i80 := by kernel_rfl, i85 := by kernel_rfl, i127 := by kernel_rfl, i143 := by kernel_rfl, i145 := by kernel_rfl, i167 := by kernel_rfl, i168 := by kernel_rfl, i171 := by kernel_rfl, i173 := by kernel_rfl, i175 := by kernel_rfl, i210 := by kernel_rfl, i212 := by kernel_rfl, i232 := by kernel_rfl, i233 := by kernel_rfl, m15 := by kernel_rfl, m16 := by kernel_rfl, m17 := by kernel_rfl, m18 := by kernel_rfl, m19 := by kernel_rfl, c0 := by kernel_rfl, c2 := by kernel_rfl, c3 := by kernel_rfl, c4 := by kernel_rfl, c5 := by kernel_rfl, c9 := by kernel_rfl, c20 := by kernel_rfl, c21 := by kernel_rfl, c37 := by kernel_rfl, c46 := by kernel_rfl, c51 := by kernel_rfl, c53 := by kernel_rfl, c75 := by kernel_rfl, c76 := by kernel_rfl, c80 := by kernel_rfl, c85 := by kernel_rfl, c127 := by kernel_rfl, c143 := by kernel_rfl, c145 := by kernel_rfl, c167 := by kernel_rfl, c168 := by kernel_rfl, c171 := by kernel_rfl, c173 := by kernel_rfl, c175 := by kernel_rfl, c210 := by kernel_rfl, c212 := by kernel_rfl, c213 := by kernel_rfl, c232 := by kernel_rfl, c233 := by kernel_rfl }
def laysTrimR : Ren := ⟨fun | 101 => 27 | 208 => 59 | 206 => 85 | n => n, fun | 9 => 9 | 4 => 4 | 3 => 3 | n => n, fun n => n⟩
set_option maxRecDepth 100000 in
theorem laysTrim : Lays.n101 Tryz.prog laysTrimR := { mixed := rfl, f101 := Tryz.func27, f206 := Tryz.func85, f208 := Tryz.func59, t3 := Tryz.underlying3, a3 := Tryz.isAgg3, z3 := Tryz.sizeOf3, v3 := Tryz.zeroValue3, t4 := Tryz.underlying4, a4 := Tryz.isAgg4, z4 := Tryz.sizeOf4, v4 := Tryz.zeroValue4, t9 := Tryz.underlying9, a9 := Tryz.isAgg9, z9 := Tryz.sizeOf9, v9 := Tryz.zeroValue9 }
def laysJoinR : Ren := ⟨fun | 156 => 23 | 165 => 53 | 166 => 54 | 169 => 55 | 240 => 75 | 241 => 76 | 276 => 93 | 277 => 94 | n => n, fun | 31 => 22 | 9 => 9 | 3 => 3 | 4 => 4 | 0 => 0 | 20 => 20 | 72 => 113 | 76 => 73 | 70 => 110 | 37 => 111 | 75 => 72 | 127 => 131 | 164 => 150 | 5 => 5 | 80 => 115 | n => n, fun n => n⟩
set_option maxRecDepth 100000 in
theorem laysJoin : Lays.n156 Tryz.prog laysJoinR := { mixed := rfl, f156 := Tryz.func23, f165 := Tryz.func53, f166 := Tryz.func54, f169 := Tryz.func55, f240 := Tryz.func75, f241 := Tryz.func76, f276 := Tryz.func93, f277 := Tryz.func94, t0 := Tryz.underlying0, a0 := Tryz.isAgg0, z0 := Tryz.sizeOf0, v0 := Tryz.zeroValue0, t3 := Tryz.underlying3, a3 := Tryz.isAgg3, z3 := Tryz.sizeOf3, v3 := Tryz.zeroValue3, t4 := Tryz.underlying4, a4 := Tryz.isAgg4, z4 := Tryz.sizeOf4, v4 := Tryz.zeroValue4, t9 := Tryz.underlying9, a9 := Tryz.isAgg9, z9 := Tryz.sizeOf9, v9 := Tryz.zeroValue9, t20 := Tryz.underlying20, a20 := Tryz.isAgg20, z20 := Tryz.sizeOf20, v20 := Tryz.zeroValue20, t31 := Tryz.underlying22, a31 := Tryz.isAgg22, z31 := Tryz.sizeOf22, v31 := Tryz.zeroValue22, t37 := Tryz.underlying111, a37 := Tryz.isAgg111, z37 := Tryz.sizeOf111, v37 := Tryz.zeroValue111, t70 := Tryz.underlying110, a70 := Tryz.isAgg110, z70 := Tryz.sizeOf110, v70 := Tryz.zeroValue110, t72 := Tryz.underlying113, a72 := Tryz.isAgg113, z72 := Tryz.sizeOf113, v72 := Tryz.zeroValue113, t75 := Tryz.underlying72, a75 := Tryz.isAgg72, z75 := Tryz.sizeOf72, v75 := Tryz.zeroValue72, t76 := Tryz.underlying73, a76 := Tryz.isAgg73, z76 := Tryz.sizeOf73, v76 := Tryz.zeroValue73, t127 := Tryz.underlying131, a127 := Tryz.isAgg131, z127 := Tryz.sizeOf131, v127 := Tryz.zeroValue131, t164 := Tryz.underlying150, a164 := Tryz.isAgg150, z164 := Tryz.sizeOf150, v164 := Tryz.zeroValue150 }
theorem xJoin : Builder.Extra Tryz.prog laysJoinR := { sizeBuilder := by kernel_rfl, liesBuilder := by kernel_rfl, t5 := Tryz.underlying5, a5 := Tryz.isAgg5, z5 := Tryz.sizeOf5, v5 := Tryz.zeroValue5, infoByte := by kernel_rfl, cellsByte := by kernel_rfl, sizeByte := by kernel_rfl, neB5 := by decide }
def IfV (v : Value) : Prop := v = .nilIface ∨ ∃ te pe, v = .iface te pe
/-- what the package variables hold that the library's functions look at. -/
def glob (w : World) : Prop := Lib.TabIs Tryz.prog w "internal/strconv.uint64pow10" .u64 Lib.pow10Tab ∧ (∃ ev, w.cell? ⟨0, 0, none⟩ = some ev ∧ IfV ev) ∧ (∃ ev, w.cell? ⟨1, 0, none⟩ = some ev ∧ IfV ev) ∧ ∃ m, w.cell? ⟨3, 0, none⟩ = some (.int .i64 m)
theorem cell_up {w w' : World} (hb : ∀ b, b < w.heap.size → w'.heap[b]? = w.heap[b]?) {a : Addr} {v : Value} (h : w.cell? a = some v) : w'.cell? a = some v := by
 unfold World.cell? at h ⊢
 cases hh : w.heap[a.block]? with
 | none => rw [hh] at h; cases h
 | some o =>
  rw [hb _ (Array.getElem?_eq_some_iff.1 hh).1]
  exact h
theorem glob_ok : GlOk glob := fun w w' hs hb ⟨h1, ⟨ev, h2, h3⟩, ⟨er, h4, h5⟩, m, h6⟩ => by
 refine ⟨?_, ⟨ev, cell_up hb h2, h3⟩, ⟨er, cell_up hb h4, h5⟩, m, cell_up hb h6⟩
 unfold Lib.TabIs World.var? at h1 ⊢
 cases hg : Tryz.prog.globalNamed "internal/strconv.uint64pow10" with
 | none => rw [hg] at h1; cases h1
 | some g =>
  rw [hg] at h1
  simp only [Option.bind_some] at h1 ⊢
  cases hh : w.heap[g]? with
  | none => rw [hh] at h1; cases h1
  | some o =>
   rw [hb _ (Array.getElem?_eq_some_iff.1 hh).1]
   exact h1
theorem grow_below (w : World) (k : Nat) (os : Array Obj) : Below w.heap.size w (grow (w.drewN k) os) :=
 ⟨rfl, rfl, rfl, by simp [grow, World.drewN], fun b hb => by
  show (w.heap ++ os)[b]? = w.heap[b]?
  rw [Array.getElem?_append_left hb]⟩
theorem itoa_s (n : Int) (h0 : -9223372036854775808 ≤ n) (h1 : n ≤ 9223372036854775807) : CtrK glob Tryz.prog 22 [(.v (.int .i64 n))] (fun rr => rr = ⟨(.v (.string (⟨(Lib.itoa n).toArray⟩))), []⟩) :=
 CtrK.vals (xs := [.int .i64 n]) Tryz.func22 rfl rfl (u := .string ⟨(Lib.itoa n).toArray⟩) (fun g => rfl) fun w hg => (Any.strconv_Itoa laysItoa n h0 h1 w hg.1).mono fun e w' ⟨he, k, os, hw⟩ => ⟨he, by rw [hw]; exact grow_below w k os⟩
theorem split_s (s : ByteArray) (c : UInt8) (hs : s.size < 4294967281) : CtrK glob Tryz.prog 25 [(.v (.string (s))), (.v (.string (⟨#[c]⟩)))] (fun rr => rr = ⟨.row 0, [.own 9 1 ((Lib.splitB ⟨#[c]⟩ 0 (Lib.countB s ⟨#[c]⟩) s).map fun x => [.v (.string x)])]⟩) :=
 CtrK.strs (xs := [.string s, .string ⟨#[c]⟩]) Tryz.func25 rfl rfl fun w hg => by
  obtain ⟨m, hm⟩ := hg.2.2.2
  have hlen := Lib.splitB_all ⟨#[c]⟩ (Nat.le_refl 1) 0 _ s rfl
  have hsz := Lib.countB_le ⟨#[c]⟩ (Nat.le_refl 1) s.size s (Nat.le_refl _)
  refine (Any.strings_Split laysSplit (by kernel_rfl) s ⟨#[c]⟩ m w hs hm (Nat.le_refl 1)).mono fun e w' ⟨he, hw⟩ => ⟨_, he, ?_, ?_⟩
  ·rw [hw]; exact Below.alloc (Below.refl _ _) (Nat.le_refl _) _
  ·generalize Lib.splitB ⟨#[c]⟩ 0 (Lib.countB s ⟨#[c]⟩) s = l at hlen hw ⊢
   rw [hw]
   refine ⟨by simp, .inr ⟨w.heap.size, _, (l.map Value.string).toArray, by rw [hlen], Nat.le_refl _, heap_alloc_new w _, by omega, by simp only [maxLen]; omega, by simp; omega, by simp [List.take_of_length_le]⟩⟩
theorem trim_s (s p : ByteArray) : Ctr Tryz.prog 27 [(.v (.string (s))), (.v (.string (p)))] (fun rr => rr = ⟨(.v (.string (⟨(Lib.trimPrefix s.data.toList p.data.toList).toArray⟩))), []⟩) :=
 Ctr.vals (xs := [.string s, .string p]) Tryz.func27 rfl rfl (u := .string ⟨(Lib.trimPrefix s.data.toList p.data.toList).toArray⟩) (fun g => rfl) fun w => (Any.strings_TrimPrefix laysTrim s p w).mono fun e w' ⟨he, hw⟩ => ⟨he, by rw [hw]; exact Below.refl _ _⟩
theorem eS_cell {μ : Mu} {w : World} (hμ : ∀ f, (μ f).In w) {b : Bool} {A : Option Addr} {l : List ByteArray} (h : RdE μ (l.map fun x => [D.v (.string x)]) b A 1 0) (j : Nat) (x : ByteArray) (hj : l[j]? = some x) : ∃ ad, A = some ad ∧ w.cell? (ad.add j) = some (.string x) := by
 obtain ⟨-, ad, h1, h2⟩ := h.get j [D.v (.string x)] (by rw [List.getElem?_map, hj]; rfl)
 refine ⟨ad, h1, ?_⟩
 simp only [RdC] at h2
 obtain ⟨⟨y, h3, h4⟩, -⟩ := h2
 simp only [Rd] at h4
 rw [h4.1] at h3
 have := (hμ b).cell h3
 rw [show ((0 + j) * 1) = j by omega, Addr.add_add, Nat.add_zero] at this
 exact this
theorem addr_none {w : World} {ad : Addr} {v : Value} (h : w.cell? (ad.add 0) = some v) : ad.spot = none ∧ ad.block < w.heap.size := by
 have e : ad.add 0 = ad := by unfold Addr.add; rfl
 rw [e] at h
 unfold World.cell? at h
 cases hh : w.heap[ad.block]? with
 | none => rw [hh] at h; cases h
 | some o =>
  rw [hh] at h
  refine ⟨?_, (Array.getElem?_eq_some_iff.1 hh).1⟩
  cases hs : ad.spot with
  | none => rfl
  | some q =>
   rw [hs] at h
   split at h <;> simp_all
theorem addr_at (bk o j : Nat) : (⟨bk, o, none⟩ : Addr).add j = ⟨bk, o + j, none⟩ := by
 unfold Addr.add
 split <;> simp_all
theorem join_s (b : Bool) (ws : List ByteArray) (sep : ByteArray) (hN : ws.length ≤ 1000000) (hlen : (Lib.join (ws.map (·.data.toList)) sep.data.toList).length ≤ 140737488355328) :
  Ctr Tryz.prog 23 [.sl b 1 (ws.map fun x => [.v (.string x)]), (.v (.string (sep)))] (fun rr => rr = ⟨(.v (.string (⟨(Lib.join (ws.map (·.data.toList)) sep.data.toList).toArray⟩))), []⟩) := by
 refine ⟨⟨_, Tryz.func23, rfl, rfl⟩, fun w kp hk vs hr => ?_⟩
 have hμ : ∀ f, (muOf kp w f).In w := fun f => by
  cases f
  ·exact fun b o h => h
  ·exact hk
 match vs, hr with
 | [u, v], hr =>
  simp only [rels, rel] at hr
  obtain ⟨hu, hv, -⟩ := hr
  simp only [Rd] at hu
  obtain ⟨A, c, rfl, hc, hE⟩ := hu
  subst hv
  rw [List.length_map] at hc ⊢
  have fin : (Calls Tryz.prog 23 #[.slice A ws.length c, .string sep] w fun e w' => e = .returned (.string ⟨(Lib.join (ws.map (·.data.toList)) sep.data.toList).toArray⟩) ∧ Below w.heap.size w w') := by
   cases hws : ws with
   | nil =>
    refine (Any.strings_Join_none laysJoin xJoin A c sep w).mono fun e w' ⟨he, hw⟩ => ⟨he, by rw [hw]; exact Below.refl _ _⟩
   | cons x xs =>
    obtain ⟨ad, rfl, h0⟩ := eS_cell hμ hE 0 x (by rw [hws]; rfl)
    obtain ⟨hs, hb⟩ := addr_none h0
    obtain ⟨bk, o, sp⟩ := ad
    simp only at hs hb
    subst hs
    rw [← hws]
    refine Any.strings_Join laysJoin xJoin bk o c ws sep w (fun j y hj => ?_) hb (by omega) hc hlen
    obtain ⟨ad', h1, h2⟩ := eS_cell hμ hE j y hj
    cases h1
    rw [addr_at] at h2
    exact h2
  refine fin.mono fun e w' ⟨he, hw⟩ => ⟨_, _, he, rfl, RetOk.plain hk hw (fun g => rfl)⟩
theorem atoi_ok (s : ByteArray) (hlim : s.size ≤ 281474976710656) (v : Int) (h : Lib.atoiAll s.data.toList = .ok v) : CtrK glob Tryz.prog 26 [(.v (.string (s)))] (fun rr => rr = ⟨.tup [(.v (.int .i64 v)), .v .nilIface], []⟩) :=
 CtrK.vals (xs := [.string s]) Tryz.func26 rfl rfl (u := .tuple #[.int .i64 v, .nilIface]) (fun g => by
  simp only [rel]
  exact ⟨_, rfl, rels_same [.int .i64 v, .nilIface]⟩) fun w hg => (Any.strconv_Atoi_ok laysAtoi s (by omega) v h w).mono fun e w' ⟨he, hw⟩ => ⟨he, by
   rcases hw with rfl | ⟨t, rfl⟩
   ·exact Below.refl _ _
   ·exact Lib.bytesWorld_below _ _ _⟩
theorem atoi_bad (s : ByteArray) (hlim : s.size ≤ 281474976710656) (h : ∀ v, Lib.atoiAll s.data.toList ≠ .ok v) : CtrK glob Tryz.prog 26 [(.v (.string (s)))] (fun rr => ∃ n t p, rr = ⟨.tup [(.v (.int .i64 n)), .v (.iface t p)], []⟩) :=
 ⟨⟨_, Tryz.func26, rfl, rfl⟩, fun w kp hk hg vs hr => by
  have hr' : rels (gh0 kp w) ([Value.string s].map .v) vs := hr
  rw [rels_vs hr']
  obtain ⟨ev, he, hev⟩ := hg.2.1
  obtain ⟨er, hr, her⟩ := hg.2.2.1
  rcases h1 : Lib.atoiAll s.data.toList with v | _ | _
  ·exact absurd h1 (h v)
  ·refine (Any.strconv_Atoi_syntax laysAtoi s hlim h1 ev _ ?_ hev).mono ?_
   ·exact he
   rintro e W1 ⟨N, rfl, -, -, hb⟩
   exact ⟨_, _, rfl, ⟨_, _, _, rfl⟩, RetOk.plain hk hb (fun g => by
    simp only [rel]
    exact ⟨_, rfl, rels_same [.int .i64 0, .iface _ (.pointer (some ⟨N, 0, none⟩))]⟩)⟩
  ·refine (Any.strconv_Atoi_range laysAtoi s hlim h1 er _ ?_ her).mono ?_
   ·exact hr
   rintro e W1 ⟨N, rfl, -, -, hb⟩
   exact ⟨_, _, rfl, ⟨_, _, _, rfl⟩, RetOk.plain hk hb (fun g => by
    simp only [rel]
    exact ⟨_, rfl, rels_same [.int .i64 _, .iface _ (.pointer (some ⟨N, 0, none⟩))]⟩)⟩⟩
end Go.Proofs.YtfojggadhhaleaaGreatDoor

