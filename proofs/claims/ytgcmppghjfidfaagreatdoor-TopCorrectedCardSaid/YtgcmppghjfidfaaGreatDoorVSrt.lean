/-
 A call that turns an own row where it lies: the library's sort of numbers.
-/
import Derived.Test.YtgcmppghjfidfaaGreatDoorVIns
import Derived.Test.YtgcmppghjfidfaaGreatDoorVB8
import Derived.Shelf.Sort.Plain
import Derived.Shelf.Slices.In.SortNone
import Derived.Sort.OwnSortedInts
namespace Go.Vx
open Go Go.RowKit
set_option linter.unusedSimpArgs false
set_option linter.unusedVariables false
/-- a function of an own row that it changes where it lies; it hands nothing back. -/
def Turn1 (P : Program) (f : FuncId) (e s : Nat) (els els' : List (List D)) : Prop :=
 Ent P f ∧ ∀ (μ : Mu) (w : World) (base : Nat) (v : Value), base ≤ w.heap.size → RowOk μ base w v e s els →
  Calls P f #[v] w fun en w' => en = .returned (.tuple #[]) ∧ RowOk μ base w' v e s els' ∧ Turned w w' v v
theorem CallI.turn1 {C : Cx} {st : St} {K : SV → St → Prop} {f r e s : Nat} {els els' : List (List D)} (hr : nth st.rw r = some (.own e s els)) (h : Turn1 C.P f e s els els')
  (hK : K (.tup []) { st with rw := setN st.rw r (.own e s els') }) : CallI C f [.row r] st K ⟨⟩ := fun g a w ht hm vs hv => by
 rw [nth_eq] at hr
 rw [setN_eq] at hK
 match vs, hv with
 | [v], ⟨⟨h1, _, hlt⟩, _⟩ =>
  subst h1
  obtain ⟨hrow, htg⟩ := hm.row _ _ _ _ hr
  refine ⟨h.1, (h.2 g.μ w C.w0.heap.size _ hm.size hrow).mono ?_⟩
  rintro en w' ⟨rfl, hrow', hT⟩
  have hne : ∀ (k : Nat) (x : Rw), (st.rw.set r (.own e s els'))[k]? = some x → (k = r ∧ x = .own e s els') ∨ (k ≠ r ∧ st.rw[k]? = some x) := fun k x hk => by
   rw [List.getElem?_set] at hk
   split at hk
   ·rename_i q
    split at hk
    ·cases hk; exact .inl ⟨q.symm, rfl⟩
    ·cases hk
   ·rename_i q; exact .inr ⟨fun e => q e.symm, hk⟩
  have himm : ∀ x, g.tag x = .imm → ob (g.σ r) ≠ some x := fun x hx hb => by
   have := htg x hb; rw [hx] at this; cases this
  refine ⟨.tuple #[], rfl, g, _, _, hK, ⟨#[], rfl, by simp [rels]⟩, ⟨ht.nb, by simp [ht.nr], ht.defers, ht.size, ht.tm, fun k s' e' hk => ?_, ht.pin⟩, ?_, fun _ => ⟨.refl g, Fr.all⟩⟩
  ·rcases hne _ _ hk with ⟨_, q⟩ | ⟨_, q⟩
   ·cases q
   ·exact ht.frz _ _ _ q
  ·refine ⟨hT.os.trans hm.os, hT.tape.trans hm.tape, hT.output.trans hm.output, Nat.le_trans hm.size hT.size, fun q x hx => ?_, fun x hx => hm.fresh x (Nat.le_trans hT.size hx), fun k bx hk => ?_, fun k e' s' l hk => ?_, fun f => ⟨fun x o hx => ?_, (hm.imm f).2⟩, hm.keep, fun x hx => ⟨(hm.np x hx).1, Nat.lt_of_lt_of_le (hm.np x hx).2 hT.size⟩, hm.hs.next rfl rfl rfl hT.size (fun _ _ _ ho => .inl ho) fun k sy ys hk => ?_⟩
   ·obtain ⟨o1, o2⟩ := hm.old q x hx
    exact ⟨(hT.keep x (hm.hs.lt q x hx) (himm x o2)).trans o1, o2⟩
   ·obtain ⟨p1, cs, p2, p3⟩ := hm.box _ _ hk
    refine ⟨p1, cs, (hT.keep _ (heap_lt p2) fun q => ?_).trans p2, p3⟩
    have := htg _ q; rw [p1] at this; cases this
   ·rcases hne _ _ hk with ⟨q, q2⟩ | ⟨q, q2⟩
    ·cases q2; subst q; exact ⟨hrow', htg⟩
    ·obtain ⟨p1, p2⟩ := hm.row _ _ _ _ q2
     refine ⟨p1.keep fun b hb => hT.keep b (p1.lt b hb).2 fun q3 => ?_, p2⟩
     have e1 := p2 b hb; have e2 := htg b q3
     rw [e1] at e2; cases e2; exact q rfl
   ·exact (hT.keep x (heap_lt ((hm.imm f).1 x o hx)) (himm x ((hm.imm f).2 x o hx))).trans ((hm.imm f).1 x o hx)
   ·rcases hne _ _ hk with ⟨_, q2⟩ | ⟨_, q2⟩
    ·cases q2
    ·exact ⟨k, q2⟩
end Go.Vx
namespace Go.Proofs.YtgcmppghjfidfaaGreatDoor
open Go Go.Vx Go.Shelf Go.RowKit Go.Sort
set_option linter.unusedSimpArgs false
set_option linter.unusedVariables false
def laysSortR : Ren := ⟨fun | 189 => 150 | 125 => 183 | 257 => 182 | 128 => 214 | 129 => 215 | 294 => 205 | 295 => 206 | 296 => 207 | 297 => 208 | 298 => 209 | 299 => 210 | 216 => 211 | 300 => 212 | 301 => 213 | 328 => 229 | 329 => 230 | 330 => 231 | 331 => 232 | 332 => 233 | 215 => 234 | 343 => 241 | n => n, fun | 28 => 60 | 3 => 3 | 46 => 237 | 0 => 0 | 51 => 265 | 53 => 239 | 4 => 4 | 183 => 259 | 182 => 258 | 131 => 262 | 5 => 5 | 9 => 9 | 218 => 279 | 222 => 149 | 228 => 296 | 229 => 28 | n => n, fun n => n⟩
set_option maxRecDepth 100000 in
theorem laysSort : Lays.n189 Tryz.prog laysSortR := { mixed := rfl, f125 := Tryz.func183, f128 := Tryz.func214, f129 := Tryz.func215, f189 := Tryz.func150, f215 := Tryz.func234, f216 := Tryz.func211, f257 := Tryz.func182, f294 := Tryz.func205, f295 := Tryz.func206, f296 := Tryz.func207, f297 := Tryz.func208, f298 := Tryz.func209, f299 := Tryz.func210, f300 := Tryz.func212, f301 := Tryz.func213, f328 := Tryz.func229, f329 := Tryz.func230, f330 := Tryz.func231, f331 := Tryz.func232, f332 := Tryz.func233, f343 := Tryz.func241, t0 := Tryz.underlying0, a0 := Tryz.isAgg0, z0 := Tryz.sizeOf0, v0 := Tryz.zeroValue0, t3 := Tryz.underlying3, a3 := Tryz.isAgg3, z3 := Tryz.sizeOf3, v3 := Tryz.zeroValue3, t4 := Tryz.underlying4, a4 := Tryz.isAgg4, z4 := Tryz.sizeOf4, v4 := Tryz.zeroValue4, t5 := Tryz.underlying5, a5 := Tryz.isAgg5, z5 := Tryz.sizeOf5, v5 := Tryz.zeroValue5, t9 := Tryz.underlying9, a9 := Tryz.isAgg9, z9 := Tryz.sizeOf9, v9 := Tryz.zeroValue9, t28 := Tryz.underlying60, a28 := Tryz.isAgg60, z28 := Tryz.sizeOf60, v28 := Tryz.zeroValue60, t46 := Tryz.underlying237, a46 := Tryz.isAgg237, z46 := Tryz.sizeOf237, v46 := Tryz.zeroValue237, t51 := Tryz.underlying265, a51 := Tryz.isAgg265, z51 := Tryz.sizeOf265, v51 := Tryz.zeroValue265, t53 := Tryz.underlying239, a53 := Tryz.isAgg239, z53 := Tryz.sizeOf239, v53 := Tryz.zeroValue239, t131 := Tryz.underlying262, a131 := Tryz.isAgg262, z131 := Tryz.sizeOf262, v131 := Tryz.zeroValue262, t182 := Tryz.underlying258, a182 := Tryz.isAgg258, z182 := Tryz.sizeOf258, v182 := Tryz.zeroValue258, t183 := Tryz.underlying259, a183 := Tryz.isAgg259, z183 := Tryz.sizeOf259, v183 := Tryz.zeroValue259, t218 := Tryz.underlying279, a218 := Tryz.isAgg279, z218 := Tryz.sizeOf279, v218 := Tryz.zeroValue279, t222 := Tryz.underlying149, a222 := Tryz.isAgg149, z222 := Tryz.sizeOf149, v222 := Tryz.zeroValue149, t228 := Tryz.underlying296, a228 := Tryz.isAgg296, z228 := Tryz.sizeOf296, v228 := Tryz.zeroValue296, t229 := Tryz.underlying28, a229 := Tryz.isAgg28, z229 := Tryz.sizeOf28, v229 := Tryz.zeroValue28 }
theorem eI_flat {μ : Mu} : ∀ {l : List Int} {vss : List (List Value)}, RdLL μ (l.map eI) vss → vss = l.map fun x => [.int .i64 x]
 | [], [], _ => rfl
 | x :: l, u :: us, h => by
  simp only [List.map_cons, RdLL] at h
  rw [eI_flat h.2]
  match u, h.1 with
  | [z], h => simp [eI, RdL, Vx.Rd] at h; rw [h.1]; rfl
  | [], h => simp [eI, RdL] at h
  | _ :: _ :: _, h => simp [eI, RdL] at h
 | [], _ :: _, h => by simp [RdLL] at h
 | _ :: _, [], h => by simp [RdLL] at h
theorem eI_rd {μ : Mu} : ∀ (l : List Int), RdLL μ (l.map eI) (l.map fun x => [.int .i64 x])
 | [] => by simp [RdLL]
 | x :: l => by
  simp only [List.map_cons, RdLL]
  exact ⟨by simp [eI, RdL, Vx.Rd, Value.oneCell'], eI_rd l⟩
theorem fl1 (l : List Int) : (l.map fun x => [Value.int .i64 x]).flatten = l.map (Value.int .i64) := by
 induction l with
 | nil => rfl
 | cons x l ih => simp [ih]
def sortI (l : List Int) : List Int := l.mergeSort fun x y => decide (x ≤ y)
theorem sort_s (l : List Int) (hl : l.length ≤ 1000000000) : Turn1 Tryz.prog 150 3 1 (l.map eI) ((sortI l).map eI) := by
 refine ⟨⟨_, Tryz.func150, rfl, rfl⟩, fun μ w base v hb hrow => ?_⟩
 obtain ⟨h0, vss, hown, hvs, hrd⟩ := hrow.tab (by decide)
 have hv := eI_flat hrd
 subst hv
 rw [fl1] at hown
 rcases hown.2 with ⟨rfl, hn⟩ | ⟨gg, cap, cur, rfl, hbb, hg, hnc, hcm, hcs, htk⟩
 ·have hl0 : l = [] := by simpa using hn
  subst hl0
  refine (Any.slices_Sort_int_none laysSort none 0 w).mono ?_
  rintro en w' ⟨rfl, rfl⟩
  refine ⟨rfl, by simpa [sortI] using hrow, ⟨rfl, rfl, rfl, Nat.le_refl _, fun _ _ _ => rfl, fun b hb => .inl hb⟩⟩
 ·simp only [List.length_map] at hnc htk ⊢
  have hH := holds_of_blockI hg (by simpa using htk)
  have hlen : (sortI l).length = l.length := List.length_mergeSort _
  refine (Any.slices_Sort_int laysSort gg 0 cap l w hH (heap_lt hg) (by omega)).mono ?_
  rintro en w' ⟨rfl, n, os, rfl⟩
  have hgrow := grownBy_sortedI (w := w) (g := gg) (n := n) (os := os) (sortI l).toArray
  have hO := ownsRow_sortedI (os := os) (n := n) hlen hbb hg hnc hcm hcs
  refine ⟨rfl, .inl ⟨by decide, (sortI l).map fun x => [.int .i64 x], ?_, by simp, eI_rd _⟩, ?_⟩
  ·rw [fl1, List.length_map, hlen]; exact hO
  ·obtain ⟨g1, g2, g3, g4, g5⟩ := hgrow
   exact ⟨g1, g2, g3, g4, fun b hb hn => g5 b hb (by simpa [ob, Value.ownBlock, eq_comm] using hn), fun b hb => .inl hb⟩
end Go.Proofs.YtgcmppghjfidfaaGreatDoor
