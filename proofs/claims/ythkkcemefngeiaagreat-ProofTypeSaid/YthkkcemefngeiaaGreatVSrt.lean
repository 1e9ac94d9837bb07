/-
  A call that turns an own row where it lies: the library's sort of numbers.
-/
import Derived.Test.YthkkcemefngeiaaGreatVIns
import Derived.Test.YthkkcemefngeiaaGreatVB8
import Derived.Shelf.Sort.Plain
import Derived.Shelf.Slices.In.SortNone
import Derived.Sort.OwnSortedInts
namespace Go.Vx
open Go Go.RowKit
set_option linter.unusedSimpArgs false
set_option linter.unusedVariables false
/-- a function of an own row that it changes where it lies; it hands nothing back. -/
def Turn1 (P : Program) (f : FuncId) (e s : Nat) (els els' : List (List D)) : Prop :=
  Ent P f ∧ ∀ (μ : Mu) (w : World) (base : Nat) (v : Value), base ≤ w.heap.size → RowOk μ base w v e s els →
    Calls P f #[v] w fun en w' => en = .returned (.tuple #[]) ∧ RowOk μ base w' v e s els' ∧ Turned w w' v v
theorem CallI.turn1 {C : Cx} {st : St} {K : SV → St → Prop} {f r e s : Nat} {els els' : List (List D)} (hr : nth st.rw r = some (.own e s els)) (h : Turn1 C.P f e s els els')
    (hK : K (.tup []) { st with rw := setN st.rw r (.own e s els') }) : CallI C f [.row r] st K ⟨⟩ := fun g a w ht hm vs hv => by
  rw [nth_eq] at hr
  rw [setN_eq] at hK
  match vs, hv with
  | [v], ⟨⟨h1, _, hlt⟩, _⟩ =>
    subst h1
    obtain ⟨hrow, htg⟩ := hm.row _ _ _ _ hr
    refine ⟨h.1, (h.2 g.μ w C.w0.heap.size _ hm.size hrow).mono ?_⟩
    rintro en w' ⟨rfl, hrow', hT⟩
    have hne : ∀ (k : Nat) (x : Rw), (st.rw.set r (.own e s els'))[k]? = some x → (k = r ∧ x = .own e s els') ∨ (k ≠ r ∧ st.rw[k]? = some x) := fun k x hk => by
      rw [List.getElem?_set] at hk
      split at hk
      · rename_i q
        split at hk
        · cases hk; exact .inl ⟨q.symm, rfl⟩
        · cases hk
      · rename_i q; exact .inr ⟨fun e => q e.symm, hk⟩
    have himm : ∀ x, g.tag x = .imm → ob (g.σ r) ≠ some x := fun x hx hb => by
      have := htg x hb; rw [hx] at this; cases this
    refine ⟨.tuple #[], rfl, g, _, _, hK, ⟨#[], rfl, by simp [rels]⟩, ⟨ht.nb, by simp [ht.nr], ht.defers, ht.size, ht.tm, fun k s' e' hk => ?_, ht.pin⟩, ?_, fun _ => ⟨.refl g, Fr.all⟩⟩
    · rcases hne _ _ hk with ⟨_, q⟩ | ⟨_, q⟩
      · cases q
      · exact ht.frz _ _ _ q
    · refine ⟨hT.os.trans hm.os, hT.tape.trans hm.tape, hT.output.trans hm.output, Nat.le_trans hm.size hT.size, fun q x hx => ?_, fun x hx => hm.fresh x (Nat.le_trans hT.size hx), fun k bx hk => ?_, fun k e' s' l hk => ?_, fun f => ⟨fun x o hx => ?_, (hm.imm f).2⟩, hm.keep, fun x hx => ⟨(hm.np x hx).1, Nat.lt_of_lt_of_le (hm.np x hx).2 hT.size⟩, hm.hs.next rfl rfl rfl hT.size (fun _ _ _ ho => .inl ho) fun k sy ys hk => ?_⟩
      · obtain ⟨o1, o2⟩ := hm.old q x hx
        exact ⟨(hT.keep x (hm.hs.lt q x hx) (himm x o2)).trans o1, o2⟩
      · obtain ⟨p1, cs, p2, p3⟩ := hm.box _ _ hk
        refine ⟨p1, cs, (hT.keep _ (heap_lt p2) fun q => ?_).trans p2, p3⟩
        have := htg _ q; rw [p1] at this; cases this
      · rcases hne _ _ hk with ⟨q, q2⟩ | ⟨q, q2⟩
        · cases q2; subst q; exact ⟨hrow', htg⟩
        · obtain ⟨p1, p2⟩ := hm.row _ _ _ _ q2
          refine ⟨p1.keep fun b hb => hT.keep b (p1.lt b hb).2 fun q3 => ?_, p2⟩
          have e1 := p2 b hb; have e2 := htg b q3
          rw [e1] at e2; cases e2; exact q rfl
      · exact (hT.keep x (heap_lt ((hm.imm f).1 x o hx)) (himm x ((hm.imm f).2 x o hx))).trans ((hm.imm f).1 x o hx)
      · rcases hne _ _ hk with ⟨_, q2⟩ | ⟨_, q2⟩
        · cases q2
        · exact ⟨k, q2⟩
end Go.Vx
namespace Go.Proofs.YthkkcemefngeiaaGreat
open Go Go.Vx Go.Shelf Go.RowKit Go.Sort
set_option linter.unusedSimpArgs false
set_option linter.unusedVariables false
def laysSortR : Ren := ⟨fun | 189 => 58 | 125 => 77 | 257 => 76 | 128 => 101 | 129 => 102 | 294 => 92 | 295 => 93 | 296 => 94 | 297 => 95 | 298 => 96 | 299 => 97 | 216 => 98 | 300 => 99 | 301 => 100 | 328 => 108 | 329 => 109 | 330 => 110 | 331 => 111 | 332 => 112 | 215 => 113 | 343 => 117 | n => n, fun | 28 => 23 | 3 => 3 | 46 => 116 | 0 => 0 | 51 => 134 | 53 => 136 | 4 => 4 | 183 => 126 | 182 => 125 | 131 => 131 | 5 => 5 | 9 => 9 | 218 => 139 | 222 => 80 | 228 => 147 | 229 => 41 | n => n, fun n => n⟩
set_option maxRecDepth 100000 in
theorem laysSort : Lays.n189 Tryz.prog laysSortR := { mixed := rfl, f125 := Tryz.func77, f128 := Tryz.func101, f129 := Tryz.func102, f189 := Tryz.func58, f215 := Tryz.func113, f216 := Tryz.func98, f257 := Tryz.func76, f294 := Tryz.func92, f295 := Tryz.func93, f296 := Tryz.func94, f297 := Tryz.func95, f298 := Tryz.func96, f299 := Tryz.func97, f300 := Tryz.func99, f301 := Tryz.func100, f328 := Tryz.func108, f329 := Tryz.func109, f330 := Tryz.func110, f331 := Tryz.func111, f332 := Tryz.func112, f343 := Tryz.func117, t0 := Tryz.underlying0, a0 := Tryz.isAgg0, z0 := Tryz.sizeOf0, v0 := Tryz.zeroValue0, t3 := Tryz.underlying3, a3 := Tryz.isAgg3, z3 := Tryz.sizeOf3, v3 := Tryz.zeroValue3, t4 := Tryz.underlying4, a4 := Tryz.isAgg4, z4 := Tryz.sizeOf4, v4 := Tryz.zeroValue4, t5 := Tryz.underlying5, a5 := Tryz.isAgg5, z5 := Tryz.sizeOf5, v5 := Tryz.zeroValue5, t9 := Tryz.underlying9, a9 := Tryz.isAgg9, z9 := Tryz.sizeOf9, v9 := Tryz.zeroValue9, t28 := Tryz.underlying23, a28 := Tryz.isAgg23, z28 := Tryz.sizeOf23, v28 := Tryz.zeroValue23, t46 := Tryz.underlying116, a46 := Tryz.isAgg116, z46 := Tryz.sizeOf116, v46 := Tryz.zeroValue116, t51 := Tryz.underlying134, a51 := Tryz.isAgg134, z51 := Tryz.sizeOf134, v51 := Tryz.zeroValue134, t53 := Tryz.underlying136, a53 := Tryz.isAgg136, z53 := Tryz.sizeOf136, v53 := Tryz.zeroValue136, t131 := Tryz.underlying131, a131 := Tryz.isAgg131, z131 := Tryz.sizeOf131, v131 := Tryz.zeroValue131, t182 := Tryz.underlying125, a182 := Tryz.isAgg125, z182 := Tryz.sizeOf125, v182 := Tryz.zeroValue125, t183 := Tryz.underlying126, a183 := Tryz.isAgg126, z183 := Tryz.sizeOf126, v183 := Tryz.zeroValue126, t218 := Tryz.underlying139, a218 := Tryz.isAgg139, z218 := Tryz.sizeOf139, v218 := Tryz.zeroValue139, t222 := Tryz.underlying80, a222 := Tryz.isAgg80, z222 := Tryz.sizeOf80, v222 := Tryz.zeroValue80, t228 := Tryz.underlying147, a228 := Tryz.isAgg147, z228 := Tryz.sizeOf147, v228 := Tryz.zeroValue147, t229 := Tryz.underlying41, a229 := Tryz.isAgg41, z229 := Tryz.sizeOf41, v229 := Tryz.zeroValue41 }
theorem eI_flat {μ : Mu} : ∀ {l : List Int} {vss : List (List Value)}, RdLL μ (l.map eI) vss → vss = l.map fun x => [.int .i64 x]
  | [], [], _ => rfl
  | x :: l, u :: us, h => by
    simp only [List.map_cons, RdLL] at h
    rw [eI_flat h.2]
    match u, h.1 with
    | [z], h => simp [eI, RdL, Vx.Rd] at h; rw [h.1]; rfl
    | [], h => simp [eI, RdL] at h
    | _ :: _ :: _, h => simp [eI, RdL] at h
  | [], _ :: _, h => by simp [RdLL] at h
  | _ :: _, [], h => by simp [RdLL] at h
theorem eI_rd {μ : Mu} : ∀ (l : List Int), RdLL μ (l.map eI) (l.map fun x => [.int .i64 x])
  | [] => by simp [RdLL]
  | x :: l => by
    simp only [List.map_cons, RdLL]
    exact ⟨by simp [eI, RdL, Vx.Rd, Value.oneCell'], eI_rd l⟩
theorem fl1 (l : List Int) : (l.map fun x => [Value.int .i64 x]).flatten = l.map (Value.int .i64) := by
  induction l with
  | nil => rfl
  | cons x l ih => simp [ih]
def sortI (l : List Int) : List Int := l.mergeSort fun x y => decide (x ≤ y)
theorem sort_s (l : List Int) (hl : l.length ≤ 1000000000) : Turn1 Tryz.prog 58 3 1 (l.map eI) ((sortI l).map eI) := by
  refine ⟨⟨_, Tryz.func58, rfl, rfl⟩, fun μ w base v hb hrow => ?_⟩
  obtain ⟨h0, vss, hown, hvs, hrd⟩ := hrow.tab (by decide)
  have hv := eI_flat hrd
  subst hv
  rw [fl1] at hown
  rcases hown.2 with ⟨rfl, hn⟩ | ⟨gg, cap, cur, rfl, hbb, hg, hnc, hcm, hcs, htk⟩
  · have hl0 : l = [] := by simpa using hn
    subst hl0
    refine (Any.slices_Sort_int_none laysSort none 0 w).mono ?_
    rintro en w' ⟨rfl, rfl⟩
    refine ⟨rfl, by simpa [sortI] using hrow, ⟨rfl, rfl, rfl, Nat.le_refl _, fun _ _ _ => rfl, fun b hb => .inl hb⟩⟩
  · simp only [List.length_map] at hnc htk ⊢
    have hH := holds_of_blockI hg (by simpa using htk)
    have hlen : (sortI l).length = l.length := List.length_mergeSort _
    refine (Any.slices_Sort_int laysSort gg 0 cap l w hH (heap_lt hg) (by omega)).mono ?_
    rintro en w' ⟨rfl, n, os, rfl⟩
    have hgrow := grownBy_sortedI (w := w) (g := gg) (n := n) (os := os) (sortI l).toArray
    have hO := ownsRow_sortedI (os := os) (n := n) hlen hbb hg hnc hcm hcs
    refine ⟨rfl, .inl ⟨by decide, (sortI l).map fun x => [.int .i64 x], ?_, by simp, eI_rd _⟩, ?_⟩
    · rw [fl1, List.length_map, hlen]; exact hO
    · obtain ⟨g1, g2, g3, g4, g5⟩ := hgrow
      exact ⟨g1, g2, g3, g4, fun b hb hn => g5 b hb (by simpa [ob, Value.ownBlock, eq_comm] using hn), fun b hb => .inl hb⟩
end Go.Proofs.YthkkcemefngeiaaGreat
