/-
 The executor is sound: operations that make or write memory.
-/
import Derived.Test.YtgcmppghjfidfaaGreatDoorVQuiet
import Derived.Maps.AppendAt
import Derived.ArgAppend
import Derived.Lib.AppendZeros
import Derived.Laws.IdiomStrings
namespace Go.Vx
open Go Go.RowKit
set_option linter.unusedSimpArgs false

/-! ### ghosts grow -/
def Gh.addBox (g : Gh) (b : Nat) : Gh :=
 { g with nb := g.nb + 1, ρ := fun k => if k = g.nb then b else g.ρ k, tag := fun x => if x = b then .box g.nb else g.tag x }
def Gh.addRow (g : Gh) (v : Value) : Gh :=
 { g with nr := g.nr + 1, σ := fun k => if k = g.nr then v else g.σ k, tag := fun x => if ob v = some x then .row g.nr else g.tag x }

theorem Gh.le_addBox (g : Gh) (b : Nat) : g.Le (g.addBox b) :=
 ⟨Nat.le_succ _, Nat.le_refl _, fun k hk => by simp [Gh.addBox]; omega, fun _ _ => rfl, .refl _⟩
theorem Gh.le_addRow (g : Gh) (v : Value) : g.Le (g.addRow v) :=
 ⟨Nat.le_refl _, Nat.le_succ _, fun _ _ => rfl, fun k hk => by simp [Gh.addRow]; omega, .refl _⟩

theorem RowOk.keep {μ : Mu} {base : Nat} {w w' : World} {v : Value} {e size : Nat} {els : List (List D)} (h : RowOk μ base w v e size els) (hk : ∀ b, ob v = some b → w'.heap[b]? = w.heap[b]?) : RowOk μ base w' v e size els := by
 rcases h with ⟨h0, vss, h1, h2⟩ | ⟨h0, b, ents, clk, rfl, hb, hg, r⟩
 ·refine .inl ⟨h0, vss, ⟨h1.1, ?_⟩, h2⟩
  rcases h1.2 with hn | ⟨g, cap, cur, rfl, hb, hg, r⟩
  ·exact .inl hn
  ·exact .inr ⟨g, cap, cur, rfl, hb, by rw [hk g rfl]; exact hg, r⟩
 ·exact .inr ⟨h0, b, ents, clk, rfl, hb, by rw [hk b rfl]; exact hg, r⟩

theorem RowOk.lt {μ : Mu} {base : Nat} {w : World} {v : Value} {e size : Nat} {els : List (List D)} (h : RowOk μ base w v e size els) : ∀ b, ob v = some b → base ≤ b ∧ b < w.heap.size := by
 rcases h with ⟨_, vss, h1, _⟩ | ⟨_, c, ents, clk, rfl, hb, hg, _⟩
 ·rw [← ob_own h1]; exact h1.lt
 ·intro b hb'
  simp only [ob, Option.some.injEq] at hb'
  subst hb'
  exact ⟨hb, (Array.getElem?_eq_some_iff.1 hg).1⟩

theorem heap_lt {w : World} {b : Nat} {o : Obj} (h : w.heap[b]? = some o) : b < w.heap.size := (Array.getElem?_eq_some_iff.1 h).1

section
variable {C : Cx} {g : Gh} {st : St} {w w' : World}

theorem Mem.nbox_lt (h : Mem C g st w) {k : Nat} {b : Bx} (hk : st.bx[k]? = some (some b)) : g.ρ k < w.heap.size := by
 obtain ⟨_, cs, hc, _⟩ := h.box k b hk
 exact heap_lt hc

/-- New memory alone. -/
theorem Mem.ext (h : Mem C g st w) (hb : Below w.heap.size w w') : Mem C g st w' where
 os := hb.os.trans h.os
 tape := hb.tape.trans h.tape
 output := hb.output.trans h.output
 size := Nat.le_trans h.size hb.size
 old := fun q b hlt => ⟨(hb.block b (h.hs.lt q b hlt)).trans (h.old q b hlt).1, (h.old q b hlt).2⟩
 fresh := fun b hlt => h.fresh b (Nat.le_trans hb.size hlt)
 box := fun k b hk => by
  obtain ⟨h1, cs, h2, h3⟩ := h.box k b hk
  exact ⟨h1, cs, (hb.block _ (heap_lt h2)).trans h2, h3⟩
 row := fun k e s els hk => by
  obtain ⟨h1, h2⟩ := h.row k e s els hk
  exact ⟨h1.keep fun b hb' => hb.block b (h1.lt b hb').2, h2⟩
 imm := fun f => ⟨fun b o hb' => (hb.block b (heap_lt ((h.imm f).1 b o hb'))).trans ((h.imm f).1 b o hb'), (h.imm f).2⟩
 keep := h.keep
 np := fun b hb' => ⟨(h.np b hb').1, Nat.lt_of_lt_of_le (h.np b hb').2 hb.size⟩
 hs := h.hs.same hb.size rfl

theorem fr_of {g : Gh} (hb : Below w.heap.size w w') : Fr g .no w w' := fun b hlt _ => hb.block b hlt

theorem Mem.newBox (h : Mem C g st w) (hb : Below w.heap.size w w') (hn : g.nb = st.bx.length) {b : Nat} (hbb : w.heap.size ≤ b) {vs : Array Value} {t : TypeId} (hc : w'.heap[b]? = some (.cells vs t (0, 0))) {cs : List SV} (hr : rels g cs vs.toList) :
  Mem C (g.addBox b) (newBox st t cs) w' := by
 have hE := h.ext hb
 have hlt := heap_lt hc
 have hle := g.le_addBox b
 refine ⟨hE.os, hE.tape, hE.output, hE.size, fun q x hx => ⟨(hE.old q x hx).1, ?_⟩, fun x hx => ?_, fun k bx hk => ?_, fun k e s els hk => ?_, fun f => ⟨(hE.imm f).1, fun x o hx => ?_⟩, hE.keep, fun x hx => ⟨?_, (hE.np x hx).2⟩, hE.hs.next rfl rfl rfl (Nat.le_refl _) (fun _ _ _ ho => .inl ho) fun k _ _ hk => ⟨k, hk⟩⟩
 ·have : x ≠ b := by have := h.hs.lt q x hx; omega
  simp [Gh.addBox, this, (h.old q x hx).2]
 ·have : x ≠ b := by omega
  simp [Gh.addBox, this, hE.fresh x hx]
 ·simp only [Go.Vx.newBox] at hk
  rw [List.getElem?_append] at hk
  split at hk
  ·rename_i hlt2
   obtain ⟨h1, c2, h2, h3⟩ := hE.box k bx hk
   have hne : k ≠ g.nb := by omega
   have hlt3 : g.ρ k < w.heap.size := h.nbox_lt hk
   have hne2 : g.ρ k ≠ b := by omega
   exact ⟨by simp [Gh.addBox, hne, hne2, h1], c2, by simpa [Gh.addBox, hne] using h2, rels_mono hle _ _ h3⟩
  ·rename_i hge
   rw [List.getElem?_singleton] at hk
   split at hk
   ·simp only [Option.some.injEq] at hk; subst hk
    have hk' : k = g.nb := by omega
    subst hk'
    exact ⟨by simp [Gh.addBox], vs, by simpa [Gh.addBox] using hc, rels_mono hle _ _ hr⟩
   ·cases hk
 ·obtain ⟨h1, h2⟩ := hE.row k e s els hk
  refine ⟨h1, fun x hx => ?_⟩
  have : x < w.heap.size := ((h.row k e s els hk).1.lt x hx).2
  have hne : x ≠ b := by omega
  simpa [Gh.addBox, hne] using h2 x hx
 ·have : x < w.heap.size := heap_lt ((h.imm f).1 x o hx)
  have hne : x ≠ b := by omega
  simp [Gh.addBox, hne, (h.imm f).2 x o hx]
 ·have hne : x ≠ b := by have := (h.np x hx).2; omega
  simp [Gh.addBox, hne, (h.np x hx).1]

/-- A new row; an old row 'r' may go, its block be the new one's. -/
theorem Mem.newRow (h : Mem C g st w) (hn : g.nr = st.rw.length) {v : Value} {e size : Nat} {els : List (List D)} {rw2 : List Rw}
  (hos : w'.os = w.os) (htape : w'.tape = w.tape) (hout : w'.output = w.output) (hsize : w.heap.size ≤ w'.heap.size)
  (hrow : RowOk g.μ C.w0.heap.size w' v e size els)
  (hlen : rw2.length = st.rw.length) (hrw : ∀ k e s l, rw2[k]? = some (.own e s l) → st.rw[k]? = some (.own e s l) ∧ ∀ b, ob (g.σ k) = some b → ob v ≠ some b)
  {rb : Option Nat} (hrb : ∀ b, rb = some b → ∃ r, g.tag b = .row r ∧ ∀ e s l, rw2[r]? ≠ some (Rw.own e s l)) (hblk0 : ∀ b, b < w.heap.size → ob v ≠ some b → some b ≠ rb → w'.heap[b]? = w.heap[b]?)
  (htag : ∀ b, ob v = some b → b < w.heap.size → ∃ r, g.tag b = .row r)
  (hgh : ∀ (k : Nat) (s : Bool) (ys : List (List SV)), rw2[k]? = some (Rw.gh s ys) → st.rw[k]? = some (Rw.gh s ys) := by first | exact fun _ _ _ h => h | (intro k s ys hk; rw [setN_eq, List.getElem?_set] at hk; split at hk <;> first | exact hk | (split at hk <;> cases hk)) | (intro k s ys hk; rw [List.getElem?_set] at hk; split at hk <;> first | exact hk | (split at hk <;> cases hk))) :
  Mem C (g.addRow v) { st with rw := rw2 ++ [.own e size els] } w' := by
 have hnot : ∀ b, b < w.heap.size → g.tag b = .imm → ob v ≠ some b := fun b hb ht hv => by
  obtain ⟨r, hr⟩ := htag b hv hb; rw [ht] at hr; cases hr
 have hle := g.le_addRow v
 have hblk : ∀ b, b < w.heap.size → ob v ≠ some b → (∀ r, g.tag b = .row r → ∃ e s l, rw2[r]? = some (Rw.own e s l)) → w'.heap[b]? = w.heap[b]? := fun b hb hv hr => hblk0 b hb hv fun e => by
  obtain ⟨r, h1, h2⟩ := hrb b e.symm
  obtain ⟨e', s', l', h3⟩ := hr r h1
  exact h2 _ _ _ h3
 have hblkI : ∀ b, b < w.heap.size → g.tag b = .imm → w'.heap[b]? = w.heap[b]? := fun b hb ht => hblk b hb (hnot b hb ht) fun r hr => by rw [ht] at hr; cases hr
 refine ⟨hos.trans h.os, htape.trans h.tape, hout.trans h.output, Nat.le_trans h.size hsize, fun q x hx => ?_, fun x hx => ?_, fun k bx hk => ?_, fun k e' s els' hk => ?_, fun f => ⟨fun x o hx => ?_, fun x o hx => ?_⟩, h.keep, fun x hx => ⟨?_, Nat.lt_of_lt_of_le (h.np x hx).2 hsize⟩, h.hs.next rfl rfl rfl hsize (fun _ _ _ ho => .inl ho) fun k s ys hk => ?_⟩
 ·have hx' := h.hs.lt q x hx
  have hne := hnot x hx' (h.old q x hx).2
  exact ⟨(hblkI x hx' (h.old q x hx).2).trans (h.old q x hx).1, by simp [Gh.addRow, hne, (h.old q x hx).2]⟩
 ·have hne : ob v ≠ some x := fun hv => by have := (hrow.lt x hv).2; omega
  simp [Gh.addRow, hne, h.fresh x (by omega)]
 ·obtain ⟨h1, c2, h2, h3⟩ := h.box k bx hk
  have hne : ob v ≠ some (g.ρ k) := fun hv => by
   obtain ⟨r, hr⟩ := htag _ hv (heap_lt h2); rw [h1] at hr; cases hr
  exact ⟨by show (if ob v = some (g.ρ k) then _ else _) = _; rw [if_neg hne]; exact h1, c2, (hblk _ (heap_lt h2) hne (fun r hr => by rw [h1] at hr; cases hr)).trans h2, rels_mono hle _ _ h3⟩
 ·simp only [] at hk
  rw [List.getElem?_append] at hk
  split at hk
  ·rename_i hlt
   obtain ⟨hk', hdis⟩ := hrw _ _ _ _ hk
   obtain ⟨h1, h2⟩ := h.row _ _ _ _ hk'
   have hne : k ≠ g.nr := by omega
   refine ⟨?_, fun x hx => ?_⟩
   ·simp only [Gh.addRow, hne, if_false]
    exact h1.keep fun b hb' => hblk b (h1.lt b hb').2 (hdis b hb') fun r hr => by rw [h2 b hb'] at hr; cases hr; exact ⟨_, _, _, hk⟩
   ·simp only [Gh.addRow, hne, if_false] at hx ⊢
    rw [if_neg (hdis x hx)]
    exact h2 x hx
  ·rename_i hge
   rw [List.getElem?_singleton] at hk
   split at hk
   ·simp only [Option.some.injEq, Rw.own.injEq] at hk
    obtain ⟨rfl, rfl, rfl⟩ := hk
    have hk' : k = g.nr := by omega
    subst hk'
    refine ⟨by simpa [Gh.addRow] using hrow, fun x hx => ?_⟩
    simp only [Gh.addRow, if_true] at hx ⊢
    rw [if_pos hx]
   ·cases hk
 ·have hlt := heap_lt ((h.imm f).1 x o hx)
  exact (hblkI x hlt ((h.imm f).2 x o hx)).trans ((h.imm f).1 x o hx)
 ·have hlt := heap_lt ((h.imm f).1 x o hx)
  simp [Gh.addRow, hnot x hlt ((h.imm f).2 x o hx), (h.imm f).2 x o hx]
 ·have h1 := h.np x hx
  simp [Gh.addRow, hnot x h1.2 h1.1, h1.1]
 ·simp only [List.getElem?_append] at hk
  split at hk
  ·exact ⟨k, hgh k s ys hk⟩
  ·rw [List.getElem?_singleton] at hk
   split at hk <;> cases hk
end

section
variable {C : Cx} {g : Gh} {st : St} {a : Act}
theorem TmOk.newBox (h : TmOk C g st a) (b : Nat) (t : TypeId) (cs : List SV) : TmOk C (g.addBox b) (newBox st t cs) a :=
 ⟨by simp [Gh.addBox, Go.Vx.newBox, h.nb], h.nr, h.defers, h.size, fun t => rel_mono (g.le_addBox b) _ _ (h.tm t), h.frz, h.pin.mono (g.le_addBox b)⟩
theorem TmOk.newRow (h : TmOk C g st a) (v : Value) {rw2 : List Rw} (r : Rw) (hlen : rw2.length = st.rw.length) (hr : ∀ s e, r ≠ .frz s e) (hf : ∀ (k s : Nat) (e : List (List D)), rw2[k]? = some (Rw.frz s e) → st.rw[k]? = some (Rw.frz s e)) : TmOk C (g.addRow v) { st with rw := rw2 ++ [r] } a := by
 refine ⟨h.nb, by simp [Gh.addRow, h.nr, hlen], h.defers, h.size, fun t => rel_mono (g.le_addRow v) _ _ (h.tm t), fun k s e hk => ?_, h.pin.mono (g.le_addRow v)⟩
 simp only [] at hk
 rw [List.getElem?_append] at hk
 split at hk
 ·have := h.frz k s e (hf _ _ _ hk)
  have hne : k ≠ g.nr := by rw [h.nr]; omega
  simpa [Gh.addRow, hne] using this
 ·rw [List.getElem?_singleton] at hk
  split at hk
  ·simp only [Option.some.injEq] at hk; exact absurd hk (hr _ _)
  ·cases hk
end

/-! ### operations -/
def htV : SV → Ht
 | .box k _ => .box k
 | .relt r _ _ _ => .row r
 | .row r => .row r
 | _ => .no

theorem run_v' {P : Program} {w w' : World} {s : Sem Value} {u : Value} (h : s.run P w = .ok u w') : ((do pure (Next.value (← s))) : Sem Next).run P w = .ok (.value u) w' := by
 simp only [Sem.run_bind, h, Result.andThen_ok, Sem.run_pure]
theorem run_u' {P : Program} {w w' : World} {s : Sem Unit} (h : s.run P w = .ok () w') : ((do s; pure Next.skip) : Sem Next).run P w = .ok .skip w' := by
 simp only [Sem.run_bind, h, Result.andThen_ok, Sem.run_pure]
def OpP (C : Cx) (o : Oper) (a : Act) (w : World) (N : Act → World → Prop) (Q : Exit → Act → World → Prop) : Prop :=
 (C.dr = true → o.wp C.P a w N Q) ∧ ((∀ c, o.op ≠ .defer c) → o.wpIn (Fx C.pin.ho.ro) 0 C.P a w N Q)
def OpE (ht : Ht) (C : Cx) (o : Oper) (st : St) (K : SV → St → Prop) : Prop :=
 ∀ g a w, TmOk C g st a → Mem C g st w → ∀ Q, OpP C o a w (fun a' w' => ∃ g' st' v u, K v st' ∧ a' = a.put o.dst u ∧ rel g' v u ∧ TmOk C g' st' a ∧ Mem C g' st' w' ∧ (C.dr = true → g.Le g' ∧ Fr g ht w w')) Q

/-- An operation that yields a value. -/
theorem OpE.of_value {C : Cx} {o : Oper} {st : St} {K : SV → St → Prop} {ht : Ht}
  (h : ∀ g a w, TmOk C g st a → Mem C g st w → ∃ n w' g' st' v u, (execOp a.eval o).run C.P w = .ok n w' ∧ (n = .value u ∨ (n = .skip ∧ u = undef)) ∧ K v st' ∧ rel g' v u ∧ TmOk C g' st' a ∧ Mem C g' st' w' ∧ (C.dr = true → g.Le g' ∧ Fr g ht w w'))   : OpE ht C o st K := fun g a w ht hm Q => by
 obtain ⟨n, w', g', st', v, u, hrun, hn, h1, h2, h3, h4, h5⟩ := h g a w ht hm
 refine ⟨fun _ => ?_, fun hnd => ⟨fun f _ => Fx_fn _ f, ?_⟩⟩
 ·unfold Oper.wp
  rw [hrun]
  rcases hn with rfl | ⟨rfl, rfl⟩ <;> exact ⟨g', st', v, _, h1, rfl, h2, h3, h4, h5⟩
 ·rw [Oper.semAt_eq _ _ _ hnd, hrun]
  rcases hn with rfl | ⟨rfl, rfl⟩ <;> exact ⟨g', st', v, _, h1, rfl, h2, h3, h4, h5⟩

section
variable {C : Cx} {T : Tab} {o : Oper} {st : St} {K : SV → St → Prop}

theorem e_quiet {v : SV} (h : OpQ C o st v) (hk : K v st) : OpE .no C o st K := OpE.of_value fun g a w ht hm => by
 obtain ⟨u, B, h1, _, _, h2⟩ := h g a w ht hm
 exact ⟨_, w, g, st, v, u, h2 w (fun _ => rfl), .inl rfl, hk, h1, ht, hm, fun _ => ⟨.refl _, .refl _ _ _⟩⟩

theorem e_alloc (hT : TabOk C.P T) {t : TypeId} (ho : o.op = .alloc t) {l : Lk (st, K)} (h : allocX (tlook T t) t st K l) : OpE .no C o st K := by
 unfold allocX at h
 split at h
 ·rename_i ti hti
  obtain ⟨⟨i, hi, hsz, z, hz, hzz⟩, _⟩ := hT _ _ hti
  unfold pass at h
  rw [lenN_eq] at h
  refine OpE.of_value fun g a w ht hm => ?_
  have hb : Below w.heap.size w (w.alloc (.cells z.cells t)) := (Below.refl _ _).alloc (Nat.le_refl _) _
  refine ⟨.value (.pointer (some ⟨w.heap.size, 0, none⟩)), w.alloc (.cells z.cells t), g.addBox w.heap.size, _, _, _, ?_, .inl rfl, h, ⟨by simp [Gh.addBox, ht.nb], by simp [Gh.addBox, ht.nb]⟩, ht.newBox _ _ _,
   hm.newBox hb ht.nb (Nat.le_refl _) (heap_alloc_new w _) (by rw [hzz]; exact rels_ofV g _), fun _ => ⟨g.le_addBox _, fr_of hb⟩⟩
  simp only [execOp, ho]
  apply run_v'
  simp [Instr.alloc, zeroValue, typeInfo, hi, hz, newVar, Go.newRow]
 ·exact h.elim

theorem e_box {t : TypeId} {x : Operand} (ho : o.op = .box t x) {l : Lk (st, K)} (h : boxX t (st.ev x) st K l) : OpE .no C o st K := by
 unfold boxX box2 at h
 split at h
 ·rename_i cs hcs
  unfold pass at h
  rw [lenN_eq] at h
  refine OpE.of_value fun g a w ht hm => ?_
  have hb : Below w.heap.size w (w.alloc (.cells (a.eval x).cells t)) := (Below.refl _ _).alloc (Nat.le_refl _) _
  refine ⟨.value (.pointer (some ⟨w.heap.size, 0, none⟩)), w.alloc (.cells (a.eval x).cells t), g.addBox w.heap.size, _, _, _, ?_, .inl rfl, h, ⟨by simp [Gh.addBox, ht.nb], by simp [Gh.addBox, ht.nb]⟩, ht.newBox _ _ _,
   hm.newBox hb ht.nb (Nat.le_refl _) (heap_alloc_new w _) (rel_cells hcs (rel_ev ht x)), fun _ => ⟨g.le_addBox _, fr_of hb⟩⟩
  simp only [execOp, ho]
  apply run_v'
  simp [Instr.box, newVar, Go.newRow]
 ·exact h.elim

theorem rel_one {g : Gh} {x : SV} {u : Value} (h : oneS x = true) (hr : rel g x u) : u.oneCell' = true := by
 cases x with
 | any => simp [oneS] at h
 | agg _ => simp [oneS] at h
 | tup _ => simp [oneS] at h
 | arm => simp [oneS] at h
 | ali _ _ => simp [oneS] at h
 | bxa _ _ => simp [oneS] at h
 | glo _ _ => simp [oneS] at h
 | sl b sz els => exact Rd.one hr
 | cap b sz els => exact Rd.one hr.1
 | pt b cs => exact Rd.one hr
 | v y => simp only [rel] at hr; rw [hr]; cases y <;> first | rfl | simp [oneS] at h
 | box k o => obtain ⟨rfl, _⟩ := hr; rfl
 | row k => obtain ⟨_, ⟨a, n, c, rfl⟩ | ⟨b, rfl⟩, _⟩ := hr <;> rfl
 | relt k i s o => obtain ⟨_, _, rfl, _⟩ := hr; rfl
 | clo f l => obtain ⟨_, rfl, _⟩ := hr; rfl
theorem rels_one {g : Gh} : ∀ {l : List SV} {us : List Value}, onesS l = true → rels g l us → ∀ u ∈ us, u.oneCell' = true
 | [], [], _, _, u, hu => by simp at hu
 | x :: l, y :: us, h, hr, u, hu => by
  simp only [onesS, Bool.and_eq_true] at h
  rcases List.mem_cons.1 hu with rfl | hu
  ·exact rel_one h.1 hr.1
  ·exact rels_one h.2 hr.2 u hu
 | [], _ :: _, _, h, _, _ => h.elim
 | _ :: _, [], _, h, _, _ => h.elim
theorem oneV_one {x : Value} (h : oneV x = true) : x.oneCell' = true := by
 cases x <;> first | rfl | simp [oneV] at h
mutual
theorem rel_toD {C : Cx} {g : Gh} {st : St} {a : Act} (ht : TmOk C g st a) : ∀ (x : SV) (d : D) (u : Value), toD st.rw x = some d → rel g x u → Rd g.μ d u
 | .v x, d, u, h, hr => by
  simp only [toD] at h
  cases ho : oneV x with
  | false => rw [ho] at h; cases h
  | true => rw [ho] at h; cases h; simp only [Rd]; exact ⟨hr, oneV_one ho⟩
 | .sl b sz els, d, u, h, hr => by simp only [toD] at h; cases h; exact hr
 | .pt b cs, d, u, h, hr => by simp only [toD] at h; cases h; exact hr
 | .row k, d, u, h, hr => by
  simp only [toD, nth_eq] at h
  unfold rwD at h
  split at h
  ·rename_i sz els hk; cases h; rw [hr.1]; exact ht.frz _ _ _ hk
  ·cases h
 | .clo f l, d, u, h, ⟨cs, h1, h2⟩ => by
  simp only [toD, Option.map_eq_some_iff] at h
  obtain ⟨ds, h3, rfl⟩ := h
  simp only [Rd]
  exact ⟨cs, h1, rels_toD ht l ds _ h3 h2⟩
 | .any, _, _, h, _ => by simp [toD] at h
 | .box .., _, _, h, _ => by simp [toD] at h
 | .relt .., _, _, h, _ => by simp [toD] at h
 | .agg _, _, _, h, _ => by simp [toD] at h
 | .tup _, _, _, h, _ => by simp [toD] at h
 | .arm, _, _, h, _ => by simp [toD] at h
 | .ali .., _, _, h, _ => by simp [toD] at h
 | .bxa .., _, _, h, _ => by simp [toD] at h
 | .glo .., _, _, h, _ => by simp [toD] at h
theorem rels_toD {C : Cx} {g : Gh} {st : St} {a : Act} (ht : TmOk C g st a) : ∀ (l : List SV) (ds : List D) (us : List Value), toDL st.rw l = some ds → rels g l us → RdL g.μ ds us
 | [], ds, [], h, _ => by simp [toDL] at h; subst h; simp [RdL]
 | x :: l, ds, u :: us, h, hr => by
  simp only [toDL] at h
  unfold consO at h
  split at h
  ·rename_i d ds' h1 h2
   cases h
   simp only [RdL]
   exact ⟨rel_toD ht x d u h1 hr.1, rels_toD ht l ds' us h2 hr.2⟩
  ·cases h
 | [], _, _ :: _, _, h => h.elim
 | _ :: _, _, [], _, h => h.elim
end

theorem storeAt_run {P : Program} {t : TypeId} {i : TypeInfo} (hi : P.info? t = some i) {b off : Nat} {w : World} {cur : Array Value} {ty : TypeId} (hb : w.heap[b]? = some (.cells cur ty (0, 0))) {v : Value} (hsz : v.cells.size = i.size) (hfit : off + v.cells.size ≤ cur.size) (h1 : ∀ u ∈ v.cells.toList, u.oneCell' = true) :
  (Instr.storeAt t (.pointer (some ⟨b, off, none⟩)) v).run P w = .ok () (w.setRow b (cur.toList.take off ++ v.cells.toList ++ cur.toList.drop (off + v.cells.size)).toArray) := by
 have := run_storeCells_at P b off ty v.cells.toList 0 cur w hb (by simpa using hfit) h1
 simp only [Nat.add_zero, Array.length_toList] at this
 simp only [Instr.storeAt, Instr.sureAddr, storeVar, sizeOf, typeInfo, Sem.run_bind, Sem.run_pure, Result.andThen_ok, run_program, hi]
 rw [if_neg (by simp [hsz])]
 exact this

theorem Mem.setBox {g : Gh} {w w' : World} (h : Mem C g st w) {b : Nat} {t : TypeId} {old cells : List SV} (hb : st.bx[b]? = some (some ⟨t, old⟩)) {vs : Array Value} (hw : w' = w.setRow (g.ρ b) vs) (hr : rels g cells vs.toList) :
  Mem C g { st with bx := setN st.bx b (some ⟨t, cells⟩) } w' := by
 subst hw
 obtain ⟨htag, cs0, hc0, _⟩ := h.box _ _ hb
 have hlt := heap_lt hc0
 have hoth : ∀ x, x ≠ g.ρ b → (w.setRow (g.ρ b) vs).heap[x]? = w.heap[x]? := fun x hx => setRow_other w _ x vs hx
 have htx : ∀ x, g.tag x = .imm → x ≠ g.ρ b := fun x hx e => by rw [e, htag] at hx; cases hx
 have hsz : (w.setRow (g.ρ b) vs).heap.size = w.heap.size := by simp [World.setRow]
 refine ⟨h.os, h.tape, h.output, by rw [hsz]; exact h.size, fun q x hx => ⟨(hoth x (htx x (h.old q x hx).2)).trans (h.old q x hx).1, (h.old q x hx).2⟩, fun x hx => h.fresh x (by rw [← hsz]; exact hx), fun k bx hk => ?_, fun k e s els hk => ?_, fun f => ⟨fun x o hx => ?_, (h.imm f).2⟩, h.keep, fun x hx => ⟨(h.np x hx).1, by rw [hsz]; exact (h.np x hx).2⟩, h.hs.same (by rw [hsz]; exact Nat.le_refl _) rfl⟩
 ·simp only [setN_eq] at hk
  rw [List.getElem?_set] at hk
  split at hk
  ·rename_i e; subst e
   split at hk
   ·cases hk
    exact ⟨htag, vs, setRow_heap w _ cs0 vs t _ hc0, hr⟩
   ·cases hk
  ·rename_i hne
   obtain ⟨h1, c2, h2, h3⟩ := h.box _ _ hk
   have : g.ρ k ≠ g.ρ b := fun e => by rw [e, htag] at h1; cases h1; exact hne rfl
   exact ⟨h1, c2, (hoth _ this).trans h2, h3⟩
 ·obtain ⟨h1, h2⟩ := h.row _ _ _ _ hk
  exact ⟨h1.keep (fun x hx => hoth x (fun e => by have := h2 x hx; rw [e, htag] at this; cases this)), h2⟩
 ·exact (hoth x (htx x ((h.imm f).2 x o hx))).trans ((h.imm f).1 x o hx)

/-- One element of the rows' cells, rewritten. -/
theorem flat_modify (s off : Nat) (vs : List Value) (hfit : off + vs.length ≤ s) : ∀ (els : List (List Value)) (n : Nat), (∀ e ∈ els, e.length = s) → n < els.length →
  (els.modify n (modE · off vs)).flatten = els.flatten.take (n * s + off) ++ vs ++ els.flatten.drop (n * s + off + vs.length)
 | [], n, _, h => by simp at h
 | x :: els, 0, hl, h => by
  have hx := hl x (by simp)
  simp only [List.modify_zero_cons, List.flatten_cons, modE, Nat.zero_mul, Nat.zero_add]
  rw [List.take_append_of_le_length (by omega), List.drop_append_of_le_length (by omega)]
  simp
 | x :: els, n + 1, hl, h => by
  have hx := hl x (by simp)
  have ih := flat_modify s off vs hfit els n (fun e he => hl e (by simp [he])) (by simpa using h)
  simp only [List.modify_succ_cons, List.flatten_cons]
  rw [ih]
  have e1 : (n + 1) * s + off = x.length + (n * s + off) := by rw [Nat.succ_mul, hx]; omega
  rw [e1, List.take_length_add_append, show x.length + (n * s + off) + vs.length = x.length + (n * s + off + vs.length) by omega, List.drop_length_add_append]
  simp

theorem Mem.setRowEls {g : Gh} {w : World} (h : Mem C g st w) {r : Nat} {e s : Nat} {els : List (List D)} (hr : st.rw[r]? = some (.own e s els)) {n : Nat} (hlt : n < els.length) {vss : List (List Value)} (hs0 : 0 < s) (hown : w.ownsRow C.w0.heap.size e s (g.σ r) vss.length vss.flatten) (hvs : ∀ e ∈ vss, e.length = s) (hrd : RdLL g.μ els vss)
  {gg cap : Nat} {cur : Array Value} (hv : g.σ r = .slice (some ⟨gg, 0, none⟩) vss.length cap) (hcur : w.heap[gg]? = some (.cells cur e (0, 0))) (hnc : vss.length ≤ cap) (hcm : cap ≤ maxLen) (hcs : cur.size = cap * s) (htake : cur.toList.take (vss.length * s) = vss.flatten)
  {off : Nat} {vs : List Value} {ds : List D} {v : Value} (hvv : v.cells.toList = vs) (hds : RdL g.μ ds vs) (hfit : off + vs.length ≤ s) :
  Mem C g { st with rw := st.rw.set r (.own e s (els.modify n (modE · off ds))) } (w.setRow gg (cur.toList.take (n * s + off) ++ v.cells.toList ++ cur.toList.drop (n * s + off + v.cells.size)).toArray) := by
 have hvl0 := hrd.len
 have hrow : RowOk g.μ C.w0.heap.size w (g.σ r) e s els := .inl ⟨hs0, vss, hown, hvs, hrd⟩
 have htg := (h.row _ _ _ _ hr).2
 have htagg := htg gg (by rw [hv]; rfl)
 have hvl : v.cells.size = vs.length := by rw [← Array.length_toList, hvv]
 have hmul : n * s + s ≤ vss.length * s := by
  have := Nat.mul_le_mul_right s (Nat.succ_le_of_lt hlt); rw [Nat.succ_mul] at this; rw [hvl0]; exact this
 have hcapn : vss.length * s ≤ cap * s := Nat.mul_le_mul_right _ hnc
 have hcl : cur.toList.length = cap * s := by simp [hcs]
 have hoth : ∀ (cs : Array Value) x, x ≠ gg → (w.setRow gg cs).heap[x]? = w.heap[x]? := fun cs x hx => setRow_other w _ x cs hx
 have htx : ∀ x, g.tag x = .imm → x ≠ gg := fun x hx e => by rw [e, htagg] at hx; cases hx
 have hsz : ∀ cs, (w.setRow gg cs).heap.size = w.heap.size := fun cs => by simp [World.setRow]
 have hels : ∀ e' ∈ vss.modify n (modE · off vs), e'.length = s := by
  intro e' he'
  obtain ⟨i, hi, rfl⟩ := List.getElem_of_mem he'
  rw [List.getElem_modify]
  have hi' : i < vss.length := by simpa using hi
  have h1 := hvs vss[i] (List.getElem_mem hi')
  split
  ·simp only [modE, List.length_append, List.length_take, List.length_drop]; omega
  ·exact h1
 refine ⟨h.os, h.tape, h.output, by rw [hsz]; exact h.size, fun q x hx => ⟨(hoth _ x (htx x (h.old q x hx).2)).trans (h.old q x hx).1, (h.old q x hx).2⟩, fun x hx => h.fresh x (by rw [hsz] at hx; exact hx), fun k bx hk => ?_, fun k e' s' els' hk => ?_, fun f => ⟨fun x o hx => ?_, (h.imm f).2⟩, h.keep, fun x hx => ⟨(h.np x hx).1, by rw [hsz]; exact (h.np x hx).2⟩, h.hs.next rfl rfl rfl (by rw [hsz]; exact Nat.le_refl _) (fun _ _ _ ho => .inl ho) fun k _ _ hk => ⟨k, by rw [List.getElem?_set] at hk; split at hk <;> first | exact hk | (split at hk <;> cases hk)⟩⟩
 ·obtain ⟨h1, c2, h2, h3⟩ := h.box _ _ hk
  have : g.ρ k ≠ gg := fun e => by rw [e, htagg] at h1; cases h1
  exact ⟨h1, c2, (hoth _ _ this).trans h2, h3⟩
 ·simp only [] at hk
  rw [List.getElem?_set] at hk
  split at hk
  ·rename_i e1; subst e1
   split at hk
   ·simp only [Option.some.injEq, Rw.own.injEq] at hk
    obtain ⟨rfl, rfl, rfl⟩ := hk
    refine ⟨.inl ⟨hs0, vss.modify n (modE · off vs), ⟨?_, .inr ⟨gg, cap, _, by rw [hv, List.length_modify], ?_, setRow_heap w gg cur _ e _ hcur, by rw [List.length_modify]; exact hnc, hcm, ?_, ?_⟩⟩, hels, ?_⟩, htg⟩
    ·rw [flat_modify s off vs hfit vss n hvs (by omega)]
     have hfl : vss.flatten.length = vss.length * s := hown.1
     simp only [List.length_append, List.length_take, List.length_drop, hfl, List.length_modify]
     omega
    ·exact (hrow.lt gg (by rw [hv]; rfl)).1
    ·simp only [List.size_toArray, List.length_append, List.length_take, List.length_drop, hvv, hvl, hcl]
     omega
    ·rw [flat_modify s off vs hfit vss n hvs (by omega), ← htake, hvv, hvl, List.length_modify]
     simp only [List.append_assoc]
     rw [List.take_append, List.take_append, List.take_take, List.take_take, List.length_take, hcl]
     rw [show min (n * s + off) (cap * s) = n * s + off by omega]
     rw [show min (vss.length * s) (n * s + off) = n * s + off by omega, show min (n * s + off) (vss.length * s) = n * s + off by omega]
     congr 1
     rw [List.take_of_length_le (l := vs) (by omega)]
     congr 1
     rw [List.drop_take]
     congr 1
     omega
    ·refine RdLL.modify (fun e u hu => ?_) n hrd
     simp only [modE]
     rw [← hds.len]
     exact ((hu.take off).append hds).append (hu.drop _)
   ·cases hk
  ·rename_i hne
   obtain ⟨h1, h2⟩ := h.row _ _ _ _ hk
   exact ⟨h1.keep (fun x hx => hoth _ x (fun e => by have := h2 x hx; rw [e, htagg] at this; cases this; exact hne rfl)), h2⟩
 ·exact (hoth _ x (htx x ((h.imm f).2 x o hx))).trans ((h.imm f).1 x o hx)

/-! ### rows become immutable -/
def Gh.frz (g : Gh) (r : Nat) (w : World) : Gh :=
 { g with tag := fun x => if ob (g.σ r) = some x then .imm else g.tag x, μ := fun f => if f then (g.μ true).join (fun b => if ob (g.σ r) = some b then w.heap[b]? else none) else g.μ false }
theorem frz_one {g : Gh} {a : Act} {w : World} (ht : TmOk C g st a) (hm : Mem C g st w) {r e size : Nat} {els : List (List D)} (hr : st.rw[r]? = some (.own e size els)) (hsz : size ≠ 0) :
  ∃ g' : Gh, g.Le g' ∧ TmOk C g' { st with rw := setN st.rw r (.frz size els) } a ∧ Mem C g' { st with rw := setN st.rw r (.frz size els) } w := by
 obtain ⟨hrow, htg⟩ := hm.row _ _ _ _ hr
 have hrow' := hrow
 obtain ⟨hs0, vss, hown, hvs, hrd⟩ := hrow.tab (by omega)
 have hle : g.Le (g.frz r w) := ⟨Nat.le_refl _, Nat.le_refl _, fun _ _ => rfl, fun _ _ => rfl, fun f => by
  cases f
  ·exact .refl _
  ·exact Hp.le_join_left _ _⟩
 have hset : ∀ k x, (setN st.rw r (.frz size els))[k]? = some x → (k = r ∧ x = .frz size els) ∨ (k ≠ r ∧ st.rw[k]? = some x) := fun k x hk => by
  rw [setN_eq, List.getElem?_set] at hk
  split at hk
  ·rename_i e; split at hk
   ·cases hk; exact .inl ⟨e.symm, rfl⟩
   ·cases hk
  ·rename_i e; exact .inr ⟨fun h => e h.symm, hk⟩
 have hμt : (g.frz r w).μ true = (g.μ true).join (fun b => if ob (g.σ r) = some b then w.heap[b]? else none) := by simp [Gh.frz]
 have hnew : Hp.In (fun b => if ob (g.σ r) = some b then w.heap[b]? else none) w := fun b o hb => by
  dsimp only at hb
  split at hb
  ·exact hb
  ·cases hb
 have hsl : Rd (g.frz r w).μ (.sl true size els) (g.σ r) := by
  simp only [Rd]
  rcases hown.2 with ⟨h1, h2⟩ | ⟨gg, cap, cur, h1, hb, hcur, hnc, hcm, hcs, htake⟩
  ·have hl : vss.length = els.length := hrd.len
   have he : els = [] := List.eq_nil_of_length_eq_zero (by omega)
   subst he
   exact ⟨none, 0, by rw [h1]; rfl, Nat.le_refl _, by simp [RdE]⟩
  ·refine ⟨some ⟨gg, 0, none⟩, cap, by rw [h1, hrd.len], by rw [← hrd.len]; exact hnc, RdE.of hs0 (hrd.mono hle.μ) hvs fun j x hj => ⟨_, rfl, ?_⟩⟩
   have hB : ob (g.σ r) = some gg := by rw [h1]; rfl
   refine (Hp.le_join_right (hm.imm true).1 hnew).cell ?_
   rw [← htake, List.getElem?_take] at hj
   split at hj
   ·simp only [Hp.cell, Addr.add_lit, hB, if_true, hcur]
    simpa using hj
   ·cases hj
 refine ⟨g.frz r w, hle, ⟨ht.nb, by simp [setN_eq, Gh.frz, ht.nr], ht.defers, ht.size, fun t => rel_mono hle _ _ (ht.tm t), fun k s e hk => ?_, ht.pin.mono hle⟩, ?_⟩
 ·rcases hset _ _ hk with ⟨rfl, hx⟩ | ⟨_, hx⟩
  ·cases hx; exact hsl
  ·exact (ht.frz _ _ _ hx).mono hle.μ _ _
 ·have htx : ∀ x, g.tag x = .imm → (g.frz r w).tag x = .imm := fun x hx => by simp only [Gh.frz]; split <;> simp [hx]
  refine ⟨hm.os, hm.tape, hm.output, hm.size, fun q x hx => ⟨(hm.old q x hx).1, htx x (hm.old q x hx).2⟩, fun x hx => htx x (hm.fresh x hx), fun k bx hk => ?_, fun k e' s' els' hk => ?_, fun f => ?_, fun b o hb => ?_, fun b hb => ⟨htx b (hm.np b hb).1, (hm.np b hb).2⟩, hm.hs.next rfl rfl rfl (Nat.le_refl _) (fun f b o hb => ?_) (fun k s ys hk => ?_)⟩
  ·obtain ⟨h1, c2, h2, h3⟩ := hm.box _ _ hk
   refine ⟨?_, c2, h2, rels_mono hle _ _ h3⟩
   show (if ob (g.σ r) = some (g.ρ k) then Tag.imm else g.tag (g.ρ k)) = _
   rw [if_neg (fun e => by have := htg _ e; rw [h1] at this; cases this)]
   exact h1
  ·rcases hset _ _ hk with ⟨_, hx⟩ | ⟨hne, hx⟩
   ·cases hx
   ·obtain ⟨h1, h2⟩ := hm.row _ _ _ _ hx
    refine ⟨h1.mono hle.μ, fun x hx' => ?_⟩
    show (if ob (g.σ r) = some x then Tag.imm else g.tag x) = _
    rw [if_neg (fun e => by have h3 := htg _ e; have h4 := h2 x hx'; rw [h3] at h4; cases h4; exact hne rfl)]
    exact h2 x hx'
  ·cases f
   ·exact ⟨(hm.imm false).1, fun b o hb => htx b ((hm.imm false).2 b o hb)⟩
   ·refine ⟨by rw [hμt]; exact (hm.imm true).1.join hnew, fun b o hb => ?_⟩
    rw [hμt] at hb
    rcases Hp.join_some hb with h | h
    ·exact htx b ((hm.imm true).2 b o h)
    ·split at h
     ·rename_i hb'; simp [Gh.frz, hb']
     ·cases h
  ·rw [hμt] at hb
   rcases Hp.join_some hb with h | h
   ·exact hm.keep b o h
   ·split at h
    ·rename_i hb'
     refine ⟨.inl (hrow'.lt b hb').1, ?_⟩
     cases hnp : C.pin.np b with
     | false => rfl
     | true => have h1 := (hm.np b hnp).1; rw [htg b hb'] at h1; cases h1
    ·cases h
  ·cases f
   ·exact .inl hb
   ·rw [hμt] at hb
    rcases Hp.join_some hb with h | h
    ·exact .inl h
    ·split at h
     ·rename_i hb'
      right
      refine ⟨?_, ?_⟩
      ·cases hmp : g.mp b with
       | false => rfl
       | true =>
        have h1 := (hm.old false b (hm.hs.mp b hmp).1).2
        rw [htg b hb'] at h1; cases h1
      ·cases hlp : C.pin.ho.lp b with
       | false => rfl
       | true =>
        have h1 := (hm.old true b (hm.hs.lp b hlp).1).2
        rw [htg b hb'] at h1; cases h1
     ·cases h
  ·rcases hset _ _ hk with ⟨_, hx⟩ | ⟨_, hx⟩
   ·cases hx
   ·exact ⟨k, hx⟩

theorem frz_sound : ∀ (rs : List Nat) {st : St} {g : Gh} {a : Act} {w : World} (_ : TmOk C g st a) (_ : Mem C g st w),
  ∃ g', g.Le g' ∧ TmOk C g' (frzX rs st) a ∧ Mem C g' (frzX rs st) w ∧ (frzX rs st).tm = st.tm ∧ (frzX rs st).bx = st.bx
 | [], st, g, a, w, ht, hm => ⟨g, .refl g, ht, hm, rfl, rfl⟩
 | r :: rs, st, g, a, w, ht, hm => by
  simp only [frzX]
  unfold frz2
  split
  ·rename_i e size els hr
   rw [nth_eq] at hr
   by_cases hs : size = 0
   ·rw [if_pos hs]; exact frz_sound rs ht hm
   ·rw [if_neg hs]
    obtain ⟨g1, h1, h2, h3⟩ := frz_one ht hm hr hs
    obtain ⟨g', k2, k3, k4, k5, k6⟩ := frz_sound rs h2 h3
    exact ⟨g', h1.trans k2, k3, k4, k5, k6⟩
  ·exact frz_sound rs ht hm

theorem Fr.le {g g' : Gh} {st : St} {w w' : World} {r : Nat} (_hn : g.nr = st.rw.length) (h : g.Le g') (hlt : r < g.nr) (hf : Fr g' (.row r) w w') : Fr g (.row r) w w' := fun b hb hh => hf b hb fun hh' => hh (by simp only [hitG] at hh' ⊢; rw [← h.σ r hlt]; exact hh')

/-- the own row that is stored gets its alias. -/
theorem arm_sound {e y : SV} {st : St} {K : St → Prop} {l : Lk (st, K)} (h : armX e y st K l) {g : Gh} {a : Act} {w : World} (ht : TmOk C g st a) (hm : Mem C g st w) : ∃ st', st'.bx = st.bx ∧ st'.rw = st.rw ∧ TmOk C g st' a ∧ Mem C g st' w ∧ K st' := by
 unfold armX at h
 split at h
 ·unfold arm2 at h
  split at h
  ·rename_i k _
   unfold arm3 at h
   split at h
   ·rename_i ety s els hk
    rw [nth_eq] at hk
    split at h
    ·exact h.elim
    ·rename_i hs
     obtain ⟨hlen, h⟩ := h
     obtain ⟨hrow, _⟩ := hm.row _ _ _ _ hk
     obtain ⟨_, vss, hown, hvs, hrd⟩ := hrow.tab (by omega)
     rcases hown.2 with ⟨_, h0⟩ | ⟨gg, cap, cur, hv, _⟩
     ·have := hrd.len; omega
     ·have hkn : k < g.nr := by rw [ht.nr]; exact (List.getElem?_eq_some_iff.1 hk).1
      refine ⟨{ st with tm := (1000000, .ali k (.slice (some ⟨gg, 0, none⟩) vss.length cap)) :: st.tm }, rfl, rfl, ⟨ht.nb, ht.nr, ht.defers, ht.size, fun t => ?_, ht.frz, ht.pin⟩, ⟨hm.os, hm.tape, hm.output, hm.size, hm.old, hm.fresh, hm.box, hm.row, hm.imm, hm.keep, hm.np, hm.hs.same (Nat.le_refl _) rfl⟩, h ⟨gg, 0, none⟩ vss.length cap⟩
      simp only [look]
      split
      ·exact ⟨hv.symm, .inl ⟨_, _, _, rfl⟩, hkn⟩
      ·exact ht.tm t
   ·exact ⟨st, rfl, rfl, ht, hm, h⟩
  ·exact ⟨st, rfl, rfl, ht, hm, h⟩
 ·exact ⟨st, rfl, rfl, ht, hm, h⟩

theorem e_store (hT : TabOk C.P T) {t : TypeId} {x y : Operand} (ho : o.op = .store t x y) {l : Lk (st, K)} (h : storeX (tlook T t) (st.ev x) y st K l) : OpE (htV (st.ev x)) C o st K := by
 unfold storeX at h
 split at h
 ·rename_i ti b off hti hx
  rw [show htV (st.ev x) = .box b by rw [hx]; rfl]
  obtain ⟨⟨i, hi, hsz, _⟩, _⟩ := hT _ _ hti
  unfold stB at h
  split at h
  ·rename_i ty c cs hbx hcs
   unfold stB2 at h
   split at h
   ·rename_i cells hput
    obtain ⟨hlen, hone, hk⟩ := h
    rw [lenN_eq] at hlen
    rw [nth_eq] at hbx
    obtain ⟨hle, rfl⟩ := putL_eq _ _ _ _ hput
    unfold pass at hk
    refine OpE.of_value fun g a w ht hm => ?_
    obtain ⟨htag, cur, hcur, hrel⟩ := hm.box _ _ hbx
    have e1 := rel_ev ht x; rw [hx] at e1
    have hv := rel_cells hcs (rel_ev ht y)
    have hvl := rels_length hv
    have hcl := rels_length hrel
    simp only [Array.length_toList] at hvl hcl
    have hrun := storeAt_run hi (off := off) hcur (v := a.eval y) (by omega) (by omega) (rels_one hone hv)
    refine ⟨.skip, w.setRow (g.ρ b) (cur.toList.take off ++ (a.eval y).cells.toList ++ cur.toList.drop (off + (a.eval y).cells.size)).toArray, g, _, .any, undef, by
     simp only [execOp, ho, e1.1]
     exact run_u' hrun, .inr ⟨rfl, rfl⟩, hk, trivial, ⟨by simp [setN_eq, ht.nb], ht.nr, ht.defers, ht.size, ht.tm, ht.frz, ht.pin⟩, hm.setBox hbx rfl ?_, fun _ => ⟨.refl g, fun b' _ hn => setRow_other w _ b' _ hn⟩⟩
    ·rw [hvl]
     exact rels_append (rels_append (rels_take _ hrel) hv) (rels_drop _ hrel)
   ·exact h.elim
  ·exact h.elim
 ·rename_i ti r ix size off hti hx
  rw [show htV (st.ev x) = .row r by rw [hx]; rfl]
  obtain ⟨⟨i, hi, hsz, _⟩, _⟩ := hT _ _ hti
  refine OpE.of_value fun g0 a w ht00 hm00 => ?_
  have hx0 := rel_ev ht00 x
  obtain ⟨st0, _, _, ht0, hm0, h⟩ := arm_sound h ht00 hm00
  obtain ⟨g, hg, ht, hm, htm, hbx⟩ := frz_sound (rowsIn st0.rw [hev st0 y]) ht0 hm0
  unfold stA at h
  generalize hst : frzX (rowsIn st0.rw [hev st0 y]) st0 = st1 at h ht hm htm hbx
  have e0 : rel g (.relt r ix size off) (a.eval x) := by rw [hx] at hx0; exact rel_mono hg _ _ hx0
  have hr0 : r < g0.nr := by rw [hx] at hx0; obtain ⟨_, _, _, h, _⟩ := hx0; exact h
  unfold stR0 stR at h
  split at h
  ·rename_i e s els hr
   rw [nth_eq] at hr
   split at h
   ·rename_i hs; subst hs
    unfold stR2 at h
    split at h
    ·rename_i ds hds
     obtain ⟨hlt, hlen, hfit, hk⟩ := h
     rw [lenN_eq] at hlen
     rw [setN_eq] at hk
     unfold pass at hk
     unfold toDO at hds
     split at hds
     ·rename_i cs hcs
      obtain ⟨hrow, htg⟩ := hm.row _ _ _ _ hr
      obtain ⟨b, hb, e1, _, hsp⟩ := e0
      obtain ⟨hs0, vss, hown, hvs, hrd⟩ := hrow.tab hsp
      have hvl0 := hrd.len
      have hv := rel_cells hcs (rel_hev ht y)
      have hvv := rels_toD ht _ _ _ hds hv
      rcases hown.2 with ⟨hn, _⟩ | ⟨gg, cap, cur, hv2, hbase, hcur, hnc, hcm, hcs2, htake⟩
      ·rw [hn] at hb; simp [ob, Value.ownBlock] at hb
      ·rw [hv2] at hb; simp only [ob, Value.ownBlock, Option.some.injEq] at hb; subst hb
       have hvl : (a.eval y).cells.size = ti.size := by rw [← Array.length_toList, hvv.len]; exact hlen
       have hmul : ix.toNat * s + s ≤ vss.length * s := by
        have := Nat.mul_le_mul_right s (Nat.succ_le_of_lt hlt); rw [Nat.succ_mul] at this; rw [hvl0]; exact this
       have hcapn : vss.length * s ≤ cap * s := Nat.mul_le_mul_right _ hnc
       have hrun := storeAt_run hi (off := ix.toNat * s + off) hcur (v := a.eval y) (by omega) (by omega) hvv.one
       refine ⟨.skip, w.setRow gg (cur.toList.take (ix.toNat * s + off) ++ (a.eval y).cells.toList ++ cur.toList.drop (ix.toNat * s + off + (a.eval y).cells.size)).toArray, g, _, .any, undef, by
        simp only [execOp, ho, e1]
        exact run_u' hrun, .inr ⟨rfl, rfl⟩, hk, trivial, ⟨ht.nb, by simp [ht.nr], ht.defers, ht.size, ht.tm, ?_, ht.pin⟩, ?_, fun _ => ⟨hg, Fr.le ht0.nr hg hr0 fun b' _ hn => setRow_other w _ b' _ (fun e => hn (by rw [e]; show ob (g.σ r) = _; rw [hv2]; rfl))⟩⟩
       ·intro k s' e' hk'
        rw [List.getElem?_set] at hk'
        split at hk'
        ·split at hk' <;> cases hk'
        ·exact ht.frz _ _ _ hk'
       ·exact hm.setRowEls hr hlt hs0 hown hvs hrd hv2 hcur hnc hcm hcs2 htake (vs := (a.eval y).cells.toList) (off := off) rfl hvv (by rw [Array.length_toList]; omega)
     ·cases hds
    ·exact h.elim
   ·exact h.elim
  ·exact h.elim
 ·exact h.elim

theorem fill_els {es : Nat} : ∀ (us : List (Nat × Value)) (els : List (List Value)) (i0 : Nat) (c : Array Value), us.map (·.1) = List.range' i0 us.length → us.map (fun p => p.2.cells.toList) = els → (∀ e ∈ els, e.length = es) → c.size = (i0 + us.length) * es →
  ∃ c' : Array Value, Instr.fill (fun i => some (i * es, es)) c us = some c' ∧ c'.toList = c.toList.take (i0 * es) ++ els.flatten
 | [], els, i0, c, _, h, _, hc => by
  simp at h; subst h
  refine ⟨c, rfl, ?_⟩
  simp only [List.length_nil, Nat.add_zero] at hc
  rw [List.flatten_nil, List.append_nil, List.take_of_length_le (by simp [hc])]
 | (i, u) :: us, els, i0, c, hi, h, hl, hc => by
  simp only [List.map_cons, List.length_cons, List.range'_succ, List.cons.injEq] at hi
  obtain ⟨rfl, hi⟩ := hi
  simp only [List.map_cons] at h
  subst h
  have hu : u.cells.size = es := by have := hl u.cells.toList (by simp); simpa using this
  have hsz : i * es + u.cells.size ≤ c.size := by
   rw [hc, hu, List.length_cons, Nat.add_mul, Nat.add_mul]; omega
  have hff := fill_fold u.cells (i * es) c hsz
  have hsz2 : (u.cells.zipIdx.foldl (fun (cs : Array Value) (q : Value × Nat) => cs.setIfInBounds (i * es + q.2) q.1) c).size = c.size := by
   have := congrArg List.length hff
   simp only [Array.length_toList, List.length_append, List.length_take, List.length_drop] at this
   omega
  obtain ⟨c', h1, h2⟩ := fill_els us (us.map fun p => p.2.cells.toList) (i + 1) _ hi rfl (fun e he => hl e (by simp at he ⊢; exact .inr he)) (by rw [hsz2, hc, List.length_cons]; congr 1; omega)
  refine ⟨c', ?_, ?_⟩
  ·simp only [Instr.fill]
   rw [if_neg (by simp [hu]; omega)]
   exact h1
  ·rw [h2, hff]
   simp only [List.flatten_cons]
   rw [Nat.succ_mul, List.take_append, List.take_of_length_le (by simp [hu]; omega)]
   simp only [List.length_append, List.length_take, Array.length_toList, hu]
   rw [show i * es + es - (min (i * es) c.size + es) = 0 by omega]
   simp

theorem els_sound {C : Cx} {g : Gh} {st : St} {a : Act} (ht : TmOk C g st a) {es : Nat} : ∀ (ps : List (Nat × SV)) (us : List Value) (i : Nat) (els : List (List D)), rels g (ps.map (·.2)) us → elsOf st.rw es i ps = some els →
  ps.map (·.1) = List.range' i ps.length ∧ RdLL g.μ els (us.map (fun u => u.cells.toList)) ∧ (∀ e ∈ us.map (fun u => u.cells.toList), e.length = es)
 | [], [], i, els, _, h => by simp [elsOf] at h; subst h; simp [RdLL]
 | [], _ :: _, _, _, h, _ => h.elim
 | _ :: _, [], _, _, h, _ => h.elim
 | (j, x) :: ps, u :: us, i, els, hr, h => by
  simp only [elsOf] at h
  split at h
  ·rename_i e; subst e
   unfold el3 at h
   split at h
   ·rename_i vs els' hv he
    split at h
    ·rename_i hc
     cases h
     obtain ⟨h1, h2, h3⟩ := els_sound ht ps us (i + 1) els' hr.2 he
     have hvs : RdL g.μ vs u.cells.toList := by
      unfold toDO at hv
      split at hv
      ·rename_i cs hcs; exact rels_toD ht _ _ _ hv (rel_cells hcs hr.1)
      ·cases hv
     rw [lenN_eq] at hc
     refine ⟨by simp [h1, List.range'_succ], by simp only [List.map_cons, RdLL]; exact ⟨hvs, h2⟩, ?_⟩
     intro e he; rcases List.mem_cons.1 he with rfl | he
     ·rw [hvs.len]; exact hc
     ·exact h3 e he
    ·cases h
   ·cases h
  ·cases h

theorem RdLL.one {μ : Mu} : ∀ {l : List (List D)} {vss : List (List Value)}, RdLL μ l vss → ∀ e ∈ vss, ∀ u ∈ e, u.oneCell' = true
 | [], [], _, e, he, _, _ => by simp at he
 | d :: l, v :: vss, h, e, he, u, hu => by
  simp only [RdLL] at h
  rcases List.mem_cons.1 he with rfl | he
  ·exact h.1.one u hu
  ·exact RdLL.one h.2 e he u hu
 | [], _ :: _, h, _, _, _, _ => by simp [RdLL] at h
 | _ :: _, [], h, _, _, _, _ => by simp [RdLL] at h

theorem rowOk_new {μ : Mu} {base : Nat} {w : World} {cells : Array Value} {e es n cap : Nat} {els : List (List D)} {vss : List (List Value)} (hs0 : 0 < es) (hb : base ≤ w.heap.size) (hn : vss.length = n) (hle : n ≤ cap) (hm : cap ≤ maxLen) (hs : cells.size = cap * es) (hf : cells.toList.take (n * es) = vss.flatten) (hl : ∀ e ∈ vss, e.length = es) (h1 : RdLL μ els vss) :
  RowOk μ base (w.alloc (.cells cells e)) (.slice (some ⟨w.heap.size, 0, none⟩) n cap) e es els := by
 subst hn
 have hfl : vss.flatten.length = vss.length * es := by
  have h2 := congrArg List.length hf
  have hc : cells.toList.length = cap * es := by simp [hs]
  rw [List.length_take, hc] at h2
  have := Nat.mul_le_mul_right es hle
  omega
 exact .inl ⟨hs0, vss, ⟨hfl, .inr ⟨w.heap.size, cap, cells, rfl, hb, heap_alloc_new w _, hle, hm, hs, hf⟩⟩, hl, h1⟩

theorem own_new {g : Gh} {w : World} (hm : Mem C g st w) (hnr : g.nr = st.rw.length) {cells : Array Value} {e es n cap : Nat} {els : List (List D)} (hrow : RowOk g.μ C.w0.heap.size (w.alloc (.cells cells e)) (.slice (some ⟨w.heap.size, 0, none⟩) n cap) e es els) :
  Mem C (g.addRow (.slice (some ⟨w.heap.size, 0, none⟩) n cap)) (newRow st e es els) (w.alloc (.cells cells e)) := by
 have hown : ob (Value.slice (some ⟨w.heap.size, 0, none⟩) n cap) = some w.heap.size := rfl
 refine hm.newRow hnr rfl rfl rfl (by simp) hrow rfl (fun k e s l hk => ⟨hk, fun b hb hv => ?_⟩) (rb := none) (fun b hb => by cases hb) (fun b hb _ _ => Below.heap_alloc w _ b hb) (fun b hb hlt => ?_)
 ·have := ((hm.row _ _ _ _ hk).1.lt b hb).2
  rw [hown] at hv; cases hv; omega
 ·rw [hown] at hb; cases hb; omega

theorem e_bs (hT : TabOk C.P T) {t : TypeId} {n : Nat} {ps : Array (Nat × Operand)} (ho : o.op = .buildSlice t n ps) {l : Lk (st, bsA (tlook T t) n ps.toList K)} (h : armX (look st.tm 1000000) (.agg (ps.toList.map fun p => st.ev p.2)) st (bsA (tlook T t) n ps.toList K) l) : OpE .no C o st K := by
 refine OpE.of_value fun g a w ht00 hm00 => ?_
 obtain ⟨st0, _, _, ht0, hm0, h⟩ := arm_sound h ht00 hm00
 obtain ⟨g1, hle, ht, hm, htm, hbx⟩ := frz_sound (rowsIn st0.rw (ps.toList.map fun p => hev st0 p.2)) ht0 hm0
 replace h : bsX (tlook T t) n (ps.toList.map fun p => (p.1, hev (frzX (rowsIn st0.rw (ps.toList.map fun p => hev st0 p.2)) st0) p.2)) K (frzX (rowsIn st0.rw (ps.toList.map fun p => hev st0 p.2)) st0) ⟨⟩ := h
 generalize frzX (rowsIn st0.rw (ps.toList.map fun p => hev st0 p.2)) st0 = st1 at h ht hm htm hbx
 unfold bsX at h
 split at h
 ·rename_i z q e es eb ez m hti
  obtain ⟨_, ⟨hu, i, hi, hsz, _, hes, _, hez1, zz, hz, hzz, hezl⟩, _⟩ := hT _ _ hti
  unfold bs2 at h
  split at h
  ·rename_i els hels
   obtain ⟨hlen, hlim, hk⟩ := h
   rw [lenN_eq] at hlen
   unfold pass at hk
   rw [lenN_eq] at hk
   have hr := rels_hevs ht (ps.toList.map (·.2))
   obtain ⟨h1, h2, h3⟩ := els_sound ht (ps.toList.map fun p => (p.1, hev st1 p.2)) (ps.toList.map fun p => a.eval p.2) 0 els (by simpa [Function.comp_def] using hr) hels
   generalize hvss : (ps.toList.map fun p => a.eval p.2).map (fun u => u.cells.toList) = vss at h2 h3
   have hvn : vss.length = n := by rw [h2.len, hlen]
   have hpl : ps.toList.length = n := by rw [← hvn, ← hvss]; simp
   obtain ⟨c', hf, hc'⟩ := fill_els (es := es) (ps.toList.map fun p => (p.1, a.eval p.2)) vss 0 (madeCells zz.cells (n * es)) (by simpa [Function.comp_def] using h1) (by rw [← hvss]; simp [Function.comp_def]) h3 (by rw [size_madeCells]; simp [hpl])
   have hcs : c'.size = n * es := by
    have := congrArg List.length hc'
    simp only [Array.length_toList, Nat.zero_mul, List.take_zero, List.nil_append] at this
    rw [this]
    have : ∀ els : List (List Value), (∀ e ∈ els, e.length = es) → els.flatten.length = els.length * es := by
     intro els; induction els with
     | nil => simp
     | cons x els ih => intro h; simp only [List.flatten_cons, List.length_append, List.length_cons, Nat.succ_mul]; rw [ih (fun e he => h e (by simp [he])), h x (by simp)]; omega
    rw [this vss h3, hvn]
   have hmx : n ≤ maxLen := by
    have : n ≤ n * es := Nat.le_mul_of_pos_right n hes
    simp only [maxLen]; omega
   have htk : c'.toList.take (n * es) = vss.flatten := by
    rw [List.take_of_length_le (by simp [hcs])]
    simpa using hc'
   have hrow := rowOk_new (base := C.w0.heap.size) (w := w) (e := e) (cap := n) hes hm.size hvn (Nat.le_refl n) hmx hcs htk h3 h2
   have hb : Below w.heap.size w (w.alloc (.cells c' e)) := (Below.refl _ _).alloc (Nat.le_refl _) _
   refine ⟨.value (.slice (some ⟨w.heap.size, 0, none⟩) n n), w.alloc (.cells c' e), g1.addRow _, _, _, _, ?_, .inl rfl, hk, ⟨by simp [Gh.addRow, ht.nr], .inl ⟨_, _, _, rfl⟩, by simp [Gh.addRow, ht.nr]⟩, ?_, own_new hm ht.nr hrow, fun _ => ⟨hle.trans (g1.le_addRow _), fr_of hb⟩⟩
   ·simp only [execOp, ho]
    apply run_v'
    have hmp : (Array.map (fun x => (x.1, a.eval x.2)) ps).toList = ps.toList.map fun p => (p.1, a.eval p.2) := by simp
    have hn0 : ¬ (n * es > 2 ^ 24) := by omega
    simp only [Instr.buildSlice, Sem.run_bind, run_underlying hu, Result.andThen_ok, sizeOf, typeInfo, run_program, hi, Sem.run_pure, hsz]
    rw [if_neg hn0]
    have hmd : ∀ zero : Array Value, (n * es = 0 ∨ zero = zz.cells) → (Array.range (n * es)).map (zero[· % zero.size]!) = madeCells zz.cells (n * es) := by
     intro zero h
     rcases h with h | rfl
     ·rw [h]; simp [madeCells]
     ·rfl
    by_cases h0 : n * es = 0
    ·simp only [h0, if_true, Sem.run_bind, Sem.run_pure, Result.andThen_ok]
     have e0 := hmd #[] (.inl h0)
     rw [h0] at e0
     rw [e0, hmp]
     rw [h0] at hf
     rw [hf]
     simp [Go.newRow]
    ·simp only [h0, if_false, zeroValue, typeInfo, Sem.run_bind, run_program, Result.andThen_ok, hi, hz, Sem.run_pure]
     rw [hmd zz.cells (.inr rfl), hmp, hf]
     simp [Go.newRow]
   ·exact TmOk.mk (by simpa [Go.Vx.newRow, Gh.addRow] using ht.nb) (by simp [Go.Vx.newRow, Gh.addRow, ht.nr]) ht.defers ht0.size (fun t => rel_mono (g1.le_addRow _) _ _ (ht.tm t)) (by
     have := (ht.newRow (.slice (some ⟨w.heap.size, 0, none⟩) n n) (.own e es els) rfl (by simp) (fun _ _ _ h => h)).frz
     exact this) (ht.pin.mono (g1.le_addRow _))
  ·exact h.elim
 ·exact h.elim

theorem made_flat (z : Array Value) (es : Nat) (h : z.size = es) (hes : 0 < es) : ∀ n : Nat, (madeCells z (n * es)).toList = (List.replicate n z.toList).flatten := by
 intro n
 apply List.ext_getElem?
 intro j
 have hl : ∀ n : Nat, (List.replicate n z.toList).flatten.length = n * es := by intro n; simp [h]
 by_cases hj : j < n * es
 ·have h1 : (madeCells z (n * es)).toList[j]? = some (z[j % es]!) := by
   simp [madeCells, hj, h]
  have hm : j % es < z.size := by rw [h]; exact Nat.mod_lt _ hes
  rw [h1]
  have : ∀ (n j : Nat), j < n * es → (List.replicate n z.toList).flatten[j]? = z.toList[j % es]? := by
   intro n
   induction n with
   | zero => intro j hj; omega
   | succ n ih =>
    intro j hj
    rw [List.replicate_succ, List.flatten_cons]
    by_cases hlt : j < es
    ·rw [List.getElem?_append_left (by simp [h, hlt]), Nat.mod_eq_of_lt hlt]
    ·rw [List.getElem?_append_right (by simp [h]; omega)]
     simp only [Array.length_toList, h]
     rw [ih (j - es) (by rw [Nat.succ_mul] at hj; omega)]
     congr 1
     rw [← Nat.mod_eq_sub_mod (by omega)]
  rw [this n j hj]
  simp [getElem!_pos, hm]
 ·rw [List.getElem?_eq_none (by rw [Array.length_toList, size_madeCells]; omega), List.getElem?_eq_none (by rw [hl]; omega)]

theorem rdL_v {μ : Mu} : ∀ (l : List Value), (∀ u ∈ l, u.oneCell' = true) → RdL μ (l.map D.v) l
 | [], _ => by simp [RdL]
 | x :: l, h => by simp only [List.map_cons, RdL, Rd]; exact ⟨⟨trivial, h x (by simp)⟩, rdL_v l fun u hu => h u (by simp [hu])⟩

theorem e_bsG (hT : TabOk C.P T) {t : TypeId} {n : Nat} {ps : Array (Nat × Operand)} (ho : o.op = .buildSlice t n ps) {l : Lk (st, K)} (h : bsG (tlook T t) n (ps.toList.map fun p => (p.1, st.ev p.2)) st K l) : OpE .no C o st K := by
 refine OpE.of_value fun g a w ht hm => ?_
 unfold bsG at h
 split at h
 ·rename_i z q e es eb ez m hti
  obtain ⟨_, ⟨hu, i, hi, hsz, _, hes, _, hez1, zz, hz, hzz, hezl⟩, _⟩ := hT _ _ hti
  unfold bs2 at h
  split at h
  ·rename_i els0 hels0
   obtain ⟨els, hels, rfl⟩ : ∃ els, elsOf st.rw es 1 (ps.toList.map fun p => (p.1, st.ev p.2)) = some els ∧ els0 = ez.map D.v :: els := by
    cases hq : elsOf st.rw es 1 (ps.toList.map fun p => (p.1, st.ev p.2)) with
    | none => rw [hq] at hels0; cases hels0
    | some els => rw [hq] at hels0; cases hels0; exact ⟨els, rfl, rfl⟩
   obtain ⟨hlen, hlim, hk⟩ := h
   rw [lenN_eq] at hlen
   unfold pass at hk
   rw [lenN_eq] at hk
   have hr := rels_evs ht (ps.toList.map (·.2))
   obtain ⟨h1, h2, h3⟩ := els_sound ht (ps.toList.map fun p => (p.1, st.ev p.2)) (ps.toList.map fun p => a.eval p.2) 1 els (by simpa [Function.comp_def] using hr) hels
   generalize hvss : (ps.toList.map fun p => a.eval p.2).map (fun u => u.cells.toList) = vss at h2 h3
   have hvn : vss.length + 1 = n := by rw [h2.len, ← hlen]; simp
   have hpl : ps.toList.length + 1 = n := by rw [← hvn, ← hvss]; simp
   obtain ⟨c', hf, hc'⟩ := fill_els (es := es) (ps.toList.map fun p => (p.1, a.eval p.2)) vss 1 (madeCells zz.cells (n * es)) (by simpa [Function.comp_def] using h1) (by rw [← hvss]; simp [Function.comp_def]) h3 (by rw [size_madeCells, ← hpl]; simp [Nat.add_comm])
   have hz0 : (madeCells zz.cells (n * es)).toList.take (1 * es) = ez := by
    have hzs : zz.cells.size = es := by rw [← Array.length_toList, hzz, hezl]
    rw [made_flat zz.cells es hzs hes n, ← hvn, List.replicate_succ, List.flatten_cons, hzz, Nat.one_mul, List.take_append_of_le_length (by omega), List.take_of_length_le (by omega)]
   rw [hz0] at hc'
   have h2' : RdLL g.μ (ez.map D.v :: els) (ez :: vss) := by
    simp only [RdLL]; exact ⟨rdL_v ez hez1, h2⟩
   have h3' : ∀ x ∈ ez :: vss, x.length = es := fun x hx => by
    rcases List.mem_cons.1 hx with rfl | hx
    ·exact hezl
    ·exact h3 x hx
   have hvn' : (ez :: vss).length = n := by simpa using hvn
   replace hc' : c'.toList = (ez :: vss).flatten := by simpa using hc'
   generalize ez :: vss = us at h2' h3' hvn' hc'
   have hcs : c'.size = n * es := by
    have := congrArg List.length hc'
    simp only [Array.length_toList] at this
    rw [this]
    have : ∀ els : List (List Value), (∀ e ∈ els, e.length = es) → els.flatten.length = els.length * es := by
     intro els; induction els with
     | nil => simp
     | cons x els ih => intro h; simp only [List.flatten_cons, List.length_append, List.length_cons, Nat.succ_mul]; rw [ih (fun e he => h e (by simp [he])), h x (by simp)]; omega
    rw [this us h3', hvn']
   have hmx : n ≤ maxLen := by
    have : n ≤ n * es := Nat.le_mul_of_pos_right n hes
    simp only [maxLen]; omega
   have htk : c'.toList.take (n * es) = us.flatten := by
    rw [List.take_of_length_le (by simp [hcs])]
    exact hc'
   have hrow := rowOk_new (base := C.w0.heap.size) (w := w) (e := e) (cap := n) hes hm.size hvn' (Nat.le_refl n) hmx hcs htk h3' h2'
   have hb : Below w.heap.size w (w.alloc (.cells c' e)) := (Below.refl _ _).alloc (Nat.le_refl _) _
   refine ⟨.value (.slice (some ⟨w.heap.size, 0, none⟩) n n), w.alloc (.cells c' e), g.addRow _, _, _, _, ?_, .inl rfl, hk, ⟨by simp [Gh.addRow, ht.nr], .inl ⟨_, _, _, rfl⟩, by simp [Gh.addRow, ht.nr]⟩, ?_, own_new hm ht.nr hrow, fun _ => ⟨(g.le_addRow _), fr_of hb⟩⟩
   ·simp only [execOp, ho]
    apply run_v'
    have hmp : (Array.map (fun x => (x.1, a.eval x.2)) ps).toList = ps.toList.map fun p => (p.1, a.eval p.2) := by simp
    have hn0 : ¬ (n * es > 2 ^ 24) := by omega
    simp only [Instr.buildSlice, Sem.run_bind, run_underlying hu, Result.andThen_ok, sizeOf, typeInfo, run_program, hi, Sem.run_pure, hsz]
    rw [if_neg hn0]
    have h0 : ¬ n * es = 0 := by
     have : 0 < n := by omega
     exact Nat.ne_of_gt (Nat.mul_pos this hes)
    simp only [h0, if_false, zeroValue, typeInfo, Sem.run_bind, run_program, Result.andThen_ok, hi, hz, Sem.run_pure]
    rw [show (Array.range (n * es)).map (zz.cells[· % zz.cells.size]!) = madeCells zz.cells (n * es) from rfl, hmp, hf]
    simp [Go.newRow]
   ·exact ht.newRow (.slice (some ⟨w.heap.size, 0, none⟩) n n) (.own e es _) rfl (by simp) (fun _ _ _ h => h)
  ·exact h.elim
 ·exact h.elim
theorem e_mk (hT : TabOk C.P T) {t : TypeId} {x y : Operand} (ho : o.op = .makeSlice t x y) {l : Lk (st, K)} (h : mkX (tlook T t) (st.ev x) (st.ev y) st K l) : OpE .no C o st K := by
 unfold mkX at h
 split at h
 ·rename_i z q e es eb ez m kl n kc c hti hx hy
  obtain ⟨_, ⟨hu, i, hi, hsz, hby, hes, heb, hez1, zz, hz, hzz, hezl⟩, _⟩ := hT _ _ hti
  obtain ⟨⟨h0, hle, hlim⟩, hk⟩ := h
  unfold pass at hk
  rw [lenN_eq] at hk
  refine OpE.of_value fun g a w ht hm => ?_
  have e1 := rel_ev ht x; rw [hx] at e1; simp only [rel] at e1
  have e2 := rel_ev ht y; rw [hy] at e2; simp only [rel] at e2
  have hc63 : c ≤ 281474976710656 := by
   have : c * 1 ≤ c * (eb : Int) := Int.mul_le_mul_of_nonneg_left (by omega) (by omega)
   rw [Int.mul_comm] at hlim; omega
  have hrun := run_make (P := C.P) w t e i zz hu hi hz kl kc n c h0 hle (by rw [hby]; exact hlim) (by omega)
  have hzs : zz.cells.size = es := by rw [← Array.length_toList, hzz]; exact hezl
  have htk : (madeCells zz.cells (c.toNat * i.size)).toList.take (n.toNat * es) = (List.replicate n.toNat ez).flatten := by
   rw [hsz, made_flat _ es hzs hes, hzz]
   have : c.toNat = n.toNat + (c.toNat - n.toNat) := by omega
   rw [this, ← List.replicate_append_replicate, List.flatten_append, List.take_left' (by simp [hezl])]
  have hrow := rowOk_new (μ := g.μ) (base := C.w0.heap.size) (w := w) (e := e) (es := es) (n := n.toNat) (cap := c.toNat) (vss := List.replicate n.toNat ez) (els := List.replicate n.toNat (ez.map D.v)) (cells := madeCells zz.cells (c.toNat * i.size)) hes hm.size (by simp) (by omega) (by simp only [maxLen]; omega) (by rw [size_madeCells, hsz]) htk
   (fun e' he => by rw [(List.mem_replicate.1 he).2]; exact hezl) (RdLL.replicate (rdL_v ez hez1) _)
  have hb : Below w.heap.size w (w.alloc (.cells (madeCells zz.cells (c.toNat * i.size)) e)) := (Below.refl _ _).alloc (Nat.le_refl _) _
  refine ⟨.value (.slice (some ⟨w.heap.size, 0, none⟩) n.toNat c.toNat), _, g.addRow _, _, _, _, ?_, .inl rfl, hk, ⟨by simp [Gh.addRow, ht.nr], .inl ⟨_, _, _, rfl⟩, by simp [Gh.addRow, ht.nr]⟩, ht.newRow _ _ rfl (by simp) (fun _ _ _ h => h), own_new hm ht.nr hrow, fun _ => ⟨g.le_addRow _, fr_of hb⟩⟩
  simp only [execOp, ho, e1, e2]
  exact run_v' hrun
 ·exact h.elim

theorem run_append_of_nil {P : Program} {w : World} (base : Nat) (t ty e : TypeId) (i : TypeInfo) (size : Nat) (ht : P.underlying t = some (.slice e)) (hi : P.info? e = some i)
  (v : Value) (n : Nat) (xs : List Value) (hown : w.ownsRow base e size v n xs) (c : Nat) : (Builtin.append_ #[t, t] ty #[v, .slice none 0 c]).run P w = .ok v w := by
 rcases hown.2 with ⟨rfl, rfl⟩ | ⟨g, cap, cur, rfl, _, _, hnc, _⟩
 ·simp [Builtin.append_, run_underlying ht, sizeOf, typeInfo, hi, Builtin.lenOf, Builtin.firstCells]
 ·simp [Builtin.append_, run_underlying ht, sizeOf, typeInfo, hi, Builtin.lenOf, Builtin.firstCells, hnc, storeCells]

/-- What is appended: so many elements, read somewhere. -/
def Src (w : World) (es : Nat) (u : Value) (vss : List (List Value)) : Prop :=
 ∃ A c, u = .slice A vss.length c ∧ (∀ e ∈ vss, e.length = es) ∧ (∀ e ∈ vss, ∀ x ∈ e, x.oneCell' = true) ∧ (vss = [] ∨ ∃ ad, A = some ad ∧ ∀ j x, vss.flatten[j]? = some x → w.cell? (ad.add j) = some x)

theorem flat_len {es : Nat} : ∀ els : List (List Value), (∀ e ∈ els, e.length = es) → els.flatten.length = els.length * es := by
 intro els; induction els with
 | nil => simp
 | cons x els ih => intro h; simp only [List.flatten_cons, List.length_append, List.length_cons, Nat.succ_mul]; rw [ih (fun e he => h e (by simp [he])), h x (by simp)]; omega

theorem app_run {P : Program} {w : World} {base : Nat} {t ty e : TypeId} {i : TypeInfo} {z : Value} {es eb : Nat} (ht : P.underlying t = some (.slice e)) (hi : P.info? e = some i) (hz : i.zero = some z) (hsz : i.size = es) (hby : i.bytes = eb) (hzs : z.cells.size = es) (hes : 0 < es) (heb : 0 < eb)
  {μ : Mu} {v u : Value} {els1 els2 : List (List D)} {vss2 : List (List Value)} (h1 : RowOk μ base w v e es els1) (h2 : Src w es u vss2) (hrd2 : RdLL μ els2 vss2) (hb : base ≤ w.heap.size) (hlim : (els1.length + els2.length) * eb ≤ 140737488355328) :
  ∃ v' w', (Builtin.append_ #[t, t] ty #[v, u]).run P w = .ok v' w' ∧ RowOk μ base w' v' e es (els1 ++ els2) ∧ w.grownBy w' (ob v) ∧ (ob v' = ob v ∨ ob v' = some w.heap.size) := by
 obtain ⟨A, c, rfl, hl, h1c, hsrc⟩ := h2
 have h1' := h1
 obtain ⟨hs0, vss1, hown, hvs, hrd1⟩ := h1.tab hes
 have hn1 := hrd1.len
 have hn2 := hrd2.len
 have hl2 : ∀ e' ∈ vss1 ++ vss2, e'.length = es := fun e' he => (List.mem_append.1 he).elim (hvs e') (hl e')
 have key : ∀ ad, A = some ad → (∀ j x, vss2.flatten[j]? = some x → w.cell? (ad.add j) = some x) →
   ∃ v' w', (Builtin.append_ #[t, t] ty #[v, .slice A vss2.length c]).run P w = .ok v' w' ∧ RowOk μ base w' v' e es (els1 ++ els2) ∧ w.grownBy w' (ob v) ∧ (ob v' = ob v ∨ ob v' = some w.heap.size) := fun ad hA hcell => by
  subst hA
  have hn : vss1.length + vss2.length ≤ maxLen := by
   have := Nat.le_mul_of_pos_right (els1.length + els2.length) heb
   simp only [maxLen]; omega
  obtain ⟨v', w', hrun, hown', hg, _, hat⟩ := run_append_own_at (P := P) w base t ty e i z es eb ht hi hz hsz hby hzs hes v vss1.length vss1.flatten hown ad vss2.length c vss2.flatten (flat_len vss2 hl) hcell
   (fun x hx => by obtain ⟨e', he, hx⟩ := List.mem_flatten.1 hx; exact h1c e' he x hx) hn (by rw [hn1, hn2]; exact hlim) hb
  exact (⟨v', w', hrun, .inl ⟨hs0, vss1 ++ vss2, by rw [List.length_append, List.flatten_append]; exact hown', hl2, hrd1.append hrd2⟩, by rw [← ob_own hown]; exact hg, by rw [← ob_own hown, ← ob_own hown']; exact hat⟩ :
   ∃ v' w', (Builtin.append_ #[t, t] ty #[v, .slice (some ad) vss2.length c]).run P w = .ok v' w' ∧ RowOk μ base w' v' e es (els1 ++ els2) ∧ w.grownBy w' (ob v) ∧ (ob v' = ob v ∨ ob v' = some w.heap.size))
 rcases hsrc with rfl | ⟨ad, hA, hcell⟩
 ·have he2 : els2 = [] := List.eq_nil_of_length_eq_zero (by simpa using hn2.symm)
  subst he2
  cases A with
  | none =>
   have hrun := run_append_of_nil (P := P) (w := w) base t ty e i es ht hi v vss1.length vss1.flatten hown c
   exact ⟨v, w, hrun, by simpa using h1', World.grownBy.refl w _, .inl rfl⟩
  | some ad => exact key ad rfl (fun j x hx => by simp at hx)
 ·subst hA
  exact key ad rfl hcell

theorem app_cap {P : Program} {w : World} {base : Nat} {t ty e : TypeId} {i : TypeInfo} {z : Value} {es eb : Nat} (ht : P.underlying t = some (.slice e)) (hi : P.info? e = some i) (hz : i.zero = some z) (hsz : i.size = es) (hby : i.bytes = eb) (hzs : z.cells.size = es) (hes : 0 < es) (heb : 0 < eb)
  {μ : Mu} {u : Value} {A1 : Option Addr} {n1 : Nat} {els1 els2 : List (List D)} {vss1 vss2 : List (List Value)} (h1 : Src w es (.slice A1 n1 n1) vss1) (hrd1 : RdLL μ els1 vss1) (h2 : Src w es u vss2) (hrd2 : RdLL μ els2 vss2) (hb : base ≤ w.heap.size) (hpos : 0 < els2.length) (hlim : (els1.length + els2.length) * eb ≤ 140737488355328) :
  ∃ v' w', (Builtin.append_ #[t, t] ty #[.slice A1 n1 n1, u]).run P w = .ok v' w' ∧ RowOk μ base w' v' e es (els1 ++ els2) ∧ w.grownBy w' none ∧ ∀ b, ob v' = some b → w.heap.size ≤ b := by
 obtain ⟨A1', c1, he1, hl1, ho1, hs1⟩ := h1
 obtain ⟨rfl, rfl, rfl⟩ : A1 = A1' ∧ n1 = vss1.length ∧ n1 = c1 := by simpa using he1
 have hn1 := hrd1.len
 have hn2 := hrd2.len
 have hlim2 : els1.length + els2.length ≤ maxLen := by
  have := Nat.le_mul_of_pos_right (els1.length + els2.length) heb
  simp only [maxLen]; omega
 obtain ⟨A2, c2, rfl, hl2, ho2, hs2⟩ := h2
 cases A1 with
 | none =>
  have he : vss1 = [] := by
   rcases hs1 with h | ⟨ad, h, -⟩
   ·exact h
   ·cases h
  subst he
  have he1 : els1 = [] := List.eq_nil_of_length_eq_zero (by simpa using hn1.symm)
  subst he1
  have hnil : RowOk μ base w (.slice none 0 0) e es [] := .inl ⟨hes, [], World.ownsRow_nil _ _ _ _, by simp, by simp [RdLL]⟩
  obtain ⟨v', w', hrun, hrow, hg, hat⟩ := app_run (ty := ty) ht hi hz hsz hby hzs hes heb hnil ⟨A2, c2, rfl, hl2, ho2, hs2⟩ hrd2 hb hlim
  refine ⟨v', w', hrun, hrow, by simpa [ob, Value.ownBlock] using hg, fun b hv => ?_⟩
  rcases hat with h | h
  ·rw [h] at hv; simp [ob, Value.ownBlock] at hv
  ·rw [h] at hv; simp only [Option.some.injEq] at hv; omega
 | some ad1 =>
  obtain ⟨ad2, rfl, hc2⟩ : ∃ ad2, A2 = some ad2 ∧ ∀ j x, vss2.flatten[j]? = some x → w.cell? (ad2.add j) = some x := by
   rcases hs2 with h | ⟨ad, h, hc⟩
   ·subst h; simp at hn2; omega
   ·exact ⟨ad, h, hc⟩
  have hc1 : ∀ j x, vss1.flatten[j]? = some x → w.cell? (ad1.add j) = some x := by
   rcases hs1 with h | ⟨ad, h, hc⟩
   ·subst h; simp
   ·obtain rfl := Option.some.inj h; exact hc
  obtain ⟨v', w', hrun, hown, hg⟩ := run_append_arg_grows (P := P) w t ty e i z es eb ht hi hz hsz hby hzs hes ad1 vss1.length vss1.length vss1.flatten (flat_len vss1 hl1) hc1 ad2 vss2.length c2 vss2.flatten (flat_len vss2 hl2) hc2 (by omega) (by omega) (by rw [hn1, hn2]; exact hlim)
  have hl3 : ∀ e' ∈ vss1 ++ vss2, e'.length = es := fun e' he => (List.mem_append.1 he).elim (hl1 e') (hl2 e')
  have hown' : w'.ownsRow base e es v' (vss1.length + vss2.length) (vss1.flatten ++ vss2.flatten) := by
   obtain ⟨k1, k2⟩ := hown
   refine ⟨k1, ?_⟩
   rcases k2 with k2 | ⟨gg, cap, cur, hv, hbs, hrest⟩
   ·exact .inl k2
   ·exact .inr ⟨gg, cap, cur, hv, Nat.le_trans hb hbs, hrest⟩
  refine ⟨v', w', hrun, .inl ⟨hes, vss1 ++ vss2, by rw [List.length_append, List.flatten_append]; exact hown', hl3, hrd1.append hrd2⟩, hg, fun b hv => ?_⟩
  obtain ⟨-, k2⟩ := hown
  rcases k2 with ⟨k2, -⟩ | ⟨gg, cap, cur, hv', hbs, -⟩
  ·rw [k2] at hv; simp [ob, Value.ownBlock] at hv
  ·rw [hv'] at hv; simp [ob, Value.ownBlock] at hv; omega

theorem e_app (hT : TabOk C.P T) {t : TypeId} {x y : Operand} (ho : o.op = .call { callee := .builtin .append, args := #[x, y], argTypes := #[t, t] }) {l : Lk (st, K)} (h : appX (tlook T t) (st.ev x) (st.ev y) st K l) : OpE (htV (st.ev x)) C o st K := by
 have hsrc2 : ∀ (e es eb : Nat) (kk : List (List D) → Prop) (l : Lk (st, kk)), 0 < es → app2 st es (st.ev y) kk l → ∃ els2, kk els2 ∧ ∀ g a w, TmOk C g st a → Mem C g st w → ∃ vss2, Src w es (a.eval y) vss2 ∧ RdLL g.μ els2 vss2 := by
  intro e es eb kk l hes0 h
  unfold app2 at h
  split at h
  ·rename_i r hy
   unfold ap3 at h
   split at h
   ·rename_i e' s els2 hr
    split at h
    ·rename_i hs; subst hs
     rw [nth_eq] at hr
     refine ⟨els2, h, fun g a w ht hm => ?_⟩
     obtain ⟨hrow0, _⟩ := hm.row _ _ _ _ hr
     obtain ⟨hs0, vss, hown, hvs, hrd⟩ := hrow0.tab hes0
     have e1 := rel_ev ht y; rw [hy] at e1; replace e1 := e1.1
     refine ⟨vss, ?_, hrd⟩
     rcases hown.2 with ⟨hv, h2⟩ | ⟨gg, cap, cur, hv, hb, hcur, hrest⟩
     ·exact ⟨none, 0, by rw [e1, hv, h2], hvs, hrd.one, .inl (List.eq_nil_of_length_eq_zero h2)⟩
     ·exact ⟨some ⟨gg, 0, none⟩, cap, by rw [e1, hv], hvs, hrd.one, .inr ⟨_, rfl, hown.cells (g := gg) (by rw [hv]; rfl)⟩⟩
    ·exact h.elim
   ·exact h.elim
  ·rename_i b s els2 hy
   split at h
   ·rename_i hs; subst hs
    refine ⟨els2, h, fun g a w ht hm => ?_⟩
    have e1 := rel_ev ht y; rw [hy] at e1; simp only [rel, Rd] at e1
    obtain ⟨A, c, e1, hc, hE⟩ := e1
    obtain ⟨vss, k1, k2, k3⟩ := hE.vals
    refine ⟨vss, ⟨A, c, by rw [e1, k1.len], k2, k1.one, ?_⟩, k1⟩
    rcases k3 with rfl | ⟨ad, hA, k3⟩
    ·left
     cases vss with
     | nil => rfl
     | cons _ _ => simp [RdLL] at k1
    ·right
     refine ⟨ad, hA, fun j x hx => (hm.imm b).1.cell ?_⟩
     have := k3 j x hx
     simpa using this
   ·exact h.elim
  ·rename_i hy
   refine ⟨[], h, fun g a w ht hm => ⟨[], ⟨none, 0, ?_, by simp, by simp, .inl rfl⟩, by simp [RdLL]⟩⟩
   have e1 := rel_ev ht y; rw [hy] at e1; exact e1
  ·exact h.elim
 unfold appX at h
 split at h
 ·rename_i z q e es eb ez m hti hx
  rw [show htV (st.ev x) = .no by rw [hx]; rfl]
  obtain ⟨_, ⟨hu, i, hi, hsz, hby, hes, heb, hez1, zz, hz, hzz, hezl⟩, _⟩ := hT _ _ hti
  have hzs : zz.cells.size = es := by rw [← Array.length_toList, hzz]; exact hezl
  obtain ⟨els2, hk, hsrc⟩ := hsrc2 e es eb _ _ hes h
  unfold appK at hk
  obtain ⟨hlim, hk⟩ := hk
  unfold pass at hk
  rw [lenN_eq] at hk
  refine OpE.of_value fun g a w ht hm => ?_
  have e1 := rel_ev ht x; rw [hx] at e1; simp only [rel] at e1
  have hnil : RowOk g.μ C.w0.heap.size w (.slice none 0 0) e es [] := .inl ⟨hes, [], World.ownsRow_nil _ _ _ _, by simp, by simp [RdLL]⟩
  obtain ⟨vss2, hS, hR2⟩ := hsrc g a w ht hm
  obtain ⟨v', w', hrun, hrow, hg, hat⟩ := app_run (ty := o.type) hu hi hz hsz hby hzs hes heb hnil hS hR2 hm.size hlim
  have hat' : ∀ b, ob v' = some b → b = w.heap.size := fun b hb => by
   rcases hat with h | h
   ·rw [h] at hb; simp [ob, Value.ownBlock] at hb
   ·rw [h] at hb; simp only [Option.some.injEq] at hb; exact hb.symm
  refine ⟨.value v', w', g.addRow v', _, _, _, ?_, .inl rfl, hk, ⟨by simp [Gh.addRow, ht.nr], ?_, by simp [Gh.addRow, ht.nr]⟩, ht.newRow _ _ rfl (by simp) (fun _ _ _ h => h), ?_, fun _ => ⟨g.le_addRow _, fun b hb _ => hg.block b hb (by simp [ob, Value.ownBlock])⟩⟩
  ·simp only [execOp, ho, resolve, invoke, builtin, Sem.run_bind, Sem.run_pure, Result.andThen_ok, List.map_toArray, List.map_cons, List.map_nil, e1, hrun]
  ·obtain ⟨_, vss, hrow, _⟩ := hrow.tab hes
   rcases hrow.2 with ⟨hv, _⟩ | ⟨gg, cap, cur, hv, _⟩ <;> exact .inl ⟨_, _, _, hv⟩
  ·exact hm.newRow ht.nr hg.os hg.tape hg.output hg.size hrow rfl (fun k e' s l hk => ⟨hk, fun b hb hv => by
    have := ((hm.row _ _ _ _ hk).1.lt b hb).2; have := hat' b hv; omega⟩) (rb := none) (fun b hb => by cases hb) (fun b hb _ _ => hg.block b hb (by simp [ob, Value.ownBlock])) (fun b hv hb => by have := hat' b hv; omega)
 ·rename_i z q e es eb ez m r hti hx
  rw [show htV (st.ev x) = .row r by rw [hx]; rfl]
  obtain ⟨_, ⟨hu, i, hi, hsz, hby, hes, heb, hez1, zz, hz, hzz, hezl⟩, _⟩ := hT _ _ hti
  have hzs : zz.cells.size = es := by rw [← Array.length_toList, hzz]; exact hezl
  unfold appR at h
  split at h
  ·rename_i e' s els1 hr
   rw [nth_eq] at hr
   split at h
   ·rename_i hes2
    obtain ⟨rfl, rfl⟩ := hes2
    obtain ⟨els2, hk, hsrc⟩ := hsrc2 e s eb _ _ hes h
    unfold appK at hk
    obtain ⟨hlim, hk⟩ := hk
    unfold pass at hk
    rw [lenN_eq, setN_eq] at hk
    refine OpE.of_value fun g a w ht hm => ?_
    obtain ⟨hrow1, htg⟩ := hm.row _ _ _ _ hr
    have e1 := rel_ev ht x; rw [hx] at e1; replace e1 := e1.1
    obtain ⟨vss2, hS, hR2⟩ := hsrc g a w ht hm
    obtain ⟨v', w', hrun, hrow, hg, hat⟩ := app_run (ty := o.type) hu hi hz hsz hby hzs hes heb hrow1 hS hR2 hm.size hlim
    have hne : ∀ k e' s' l, (st.rw.set r .gone)[k]? = some (.own e' s' l) → k ≠ r ∧ st.rw[k]? = some (.own e' s' l) := fun k e' s' l hk => by
     rw [List.getElem?_set] at hk
     split at hk
     ·split at hk <;> cases hk
     ·rename_i h; exact ⟨fun e => h e.symm, hk⟩
    have hoth : ∀ b, ob v' = some b → b < w.heap.size → ob (g.σ r) = some b := fun b hb hlt => by
     rcases hat with h | h
     ·rw [← h]; exact hb
     ·rw [h] at hb; cases hb; omega
    refine ⟨.value v', w', g.addRow v', _, _, _, ?_, .inl rfl, hk, ⟨by simp [Gh.addRow, ht.nr], ?_, by simp [Gh.addRow, ht.nr]⟩, ht.newRow _ _ (by simp) (by simp) (fun k s' e' hk => ?_), ?_, fun _ => ⟨g.le_addRow _, fun b hb hn => hg.block b hb (fun e => hn e.symm)⟩⟩
    ·simp only [execOp, ho, resolve, invoke, builtin, Sem.run_bind, Sem.run_pure, Result.andThen_ok, List.map_toArray, List.map_cons, List.map_nil, e1, hrun]
    ·obtain ⟨_, vss, hrow, _⟩ := hrow.tab hes
     rcases hrow.2 with ⟨hv, _⟩ | ⟨gg, cap, cur, hv, _⟩ <;> exact .inl ⟨_, _, _, hv⟩
    ·rw [List.getElem?_set] at hk
     split at hk
     ·split at hk <;> cases hk
     ·exact hk
    ·refine hm.newRow ht.nr hg.os hg.tape hg.output hg.size hrow (by simp) (fun k e' s' l hk => ?_) (rb := ob (g.σ r)) (fun b hb => ⟨r, htg b hb, fun e' s' l hk => (hne _ _ _ _ hk).1 rfl⟩) (fun b hb _ hrb => hg.block b hb hrb) (fun b hv hb => ⟨r, htg b (hoth b hv hb)⟩)
     obtain ⟨hkr, hk'⟩ := hne _ _ _ _ hk
     refine ⟨hk', fun b hb hv => ?_⟩
     obtain ⟨hrk, htk⟩ := hm.row _ _ _ _ hk'
     have hlt := (hrk.lt b hb).2
     have h1 := htk b hb
     have h2 := htg b (hoth b hv hlt)
     rw [h1] at h2; cases h2; exact hkr rfl
   ·exact h.elim
  ·exact h.elim
 ·rename_i z q e es eb ez m b s els1 hti hx
  rw [show htV (st.ev x) = .no by rw [hx]; rfl]
  obtain ⟨_, ⟨hu, i, hi, hsz, hby, hes, heb, hez1, zz, hz, hzz, hezl⟩, _⟩ := hT _ _ hti
  have hzs : zz.cells.size = es := by rw [← Array.length_toList, hzz]; exact hezl
  split at h
  ·rename_i hs; subst hs
   obtain ⟨els2, hk, hsrc⟩ := hsrc2 e s eb _ _ hes h
   unfold tcK at hk
   obtain ⟨⟨hpos, hlim⟩, hk⟩ := hk
   unfold pass at hk
   rw [lenN_eq] at hk
   refine OpE.of_value fun g a w ht hm => ?_
   have e1 := rel_ev ht x; rw [hx] at e1; simp only [rel, Rd] at e1
   obtain ⟨⟨A, c, e1, hc, hE⟩, A', n', e1'⟩ := e1
   rw [e1] at e1'
   obtain ⟨rfl, rfl, rfl⟩ : A = A' ∧ els1.length = n' ∧ c = n' := by simpa using e1'
   obtain ⟨vss1, k1, k2, k3⟩ := hE.vals
   have hS1 : Src w s (.slice A els1.length els1.length) vss1 := by
    refine ⟨A, _, by rw [k1.len], k2, k1.one, ?_⟩
    rcases k3 with rfl | ⟨ad, hA, k3⟩
    ·left
     cases vss1 with
     | nil => rfl
     | cons _ _ => simp [RdLL] at k1
    ·right
     refine ⟨ad, hA, fun j x hx => (hm.imm b).1.cell ?_⟩
     have := k3 j x hx
     simpa using this
   obtain ⟨vss2, hS, hR2⟩ := hsrc g a w ht hm
   obtain ⟨v', w', hrun, hrow, hg, hat⟩ := app_cap (ty := o.type) hu hi hz hsz hby hzs hes heb hS1 k1 hS hR2 hm.size hpos hlim
   refine ⟨.value v', w', g.addRow v', _, _, _, ?_, .inl rfl, hk, ⟨by simp [Gh.addRow, ht.nr], ?_, by simp [Gh.addRow, ht.nr]⟩, ht.newRow _ _ rfl (by simp) (fun _ _ _ h => h), ?_, fun _ => ⟨g.le_addRow _, fun b hb _ => hg.block b hb (by simp)⟩⟩
   ·simp only [execOp, ho, resolve, invoke, builtin, Sem.run_bind, Sem.run_pure, Result.andThen_ok, List.map_toArray, List.map_cons, List.map_nil, e1, hrun]
   ·obtain ⟨_, vss, hrow, _⟩ := hrow.tab hes
    rcases hrow.2 with ⟨hv, _⟩ | ⟨gg, cap, cur, hv, _⟩ <;> exact .inl ⟨_, _, _, hv⟩
   ·exact hm.newRow ht.nr hg.os hg.tape hg.output hg.size hrow rfl (fun k e' s l hk => ⟨hk, fun b hb hv => by
     have := ((hm.row _ _ _ _ hk).1.lt b hb).2; have := hat b hv; omega⟩) (rb := none) (fun b hb => by cases hb) (fun b hb _ _ => hg.block b hb (by simp)) (fun b hv hb => by have := hat b hv; omega)
  ·exact h.elim
 ·exact h.elim

theorem e_apz (hT : TabOk C.P T) {t t' : TypeId} {x y : Operand} (ho : o.op = .call { callee := .builtin .append, args := #[x, y], argTypes := #[t, t'] }) {l : Lk (st, K)} (h : apzX (tlook T t) (tlook T t') (st.ev x) (st.ev y) st K l) : OpE (htV (st.ev x)) C o st K := by
 unfold apzX at h
 split at h
 ·rename_i z q e es eb ez m z' q' kn m' kq n hti hti' hx hy
  rw [show htV (st.ev x) = .no by rw [hx]; rfl]
  obtain ⟨_, ⟨hu, i, hi, hsz, hby, hes, heb, hez1, zz, hz, hzz, hezl⟩, _⟩ := hT _ _ hti
  have hu' : C.P.underlying t' = some (.int kn) := (hT _ _ hti').2.1
  obtain ⟨⟨h0, hlim⟩, hk⟩ := h
  unfold pass at hk
  rw [lenN_eq] at hk
  refine OpE.of_value fun g a w ht hm => ?_
  have e1 := rel_ev ht x; rw [hx] at e1; simp only [rel] at e1
  have e2 := rel_ev ht y; rw [hy] at e2; simp only [rel] at e2
  have hzs : zz.cells.size = es := by rw [← Array.length_toList, hzz]; exact hezl
  obtain ⟨N, rfl⟩ : ∃ N : Nat, n = (N : Int) := ⟨n.toNat, by omega⟩
  have hN : N * i.bytes ≤ 140737488355328 := by
   rw [hby]
   have : ((N * eb : Nat) : Int) ≤ 140737488355328 := by rw [Int.natCast_mul]; exact hlim
   omega
  have hN2 : N ≤ 140737488355328 := by
   have : N * 1 ≤ N * i.bytes := Nat.mul_le_mul_left _ (by omega)
   omega
  have hrun := Lib.run_append_nil_zeros (P := C.P) w t t' o.type e i zz kq kn hu hu' hi hz N (by omega) (by omega) (by omega) (by omega)
  have hge := grownCap_ge w N 0 e
  have hcm : grownCap w N 0 e ≤ maxLen := grownCap_le_maxLen w N 0 e (by simp only [maxLen]; omega)
  have hzc : ∀ k, Builtin.zeroCells zz.cells k = madeCells zz.cells (k * es) := fun k => by simp [Builtin.zeroCells, madeCells, hzs]
  have htk : (Builtin.zeroCells zz.cells N ++ Builtin.zeroCells zz.cells (grownCap w N 0 e - N)).toList.take (N * es) = (List.replicate N ez).flatten := by
   rw [Array.toList_append, List.take_left' (by simp [hzc, size_madeCells]), hzc, made_flat _ es hzs hes, hzz]
  have hrow := rowOk_new (μ := g.μ) (base := C.w0.heap.size) (w := w.drew) (e := e) (es := es) (n := N) (cap := grownCap w N 0 e) (vss := List.replicate N ez) (els := List.replicate N (ez.map D.v)) (cells := Builtin.zeroCells zz.cells N ++ Builtin.zeroCells zz.cells (grownCap w N 0 e - N)) hes hm.size (by simp) hge hcm
   (by simp only [Array.size_append, hzc, size_madeCells, ← Nat.add_mul]; congr 1; omega) htk (fun e' he => by rw [(List.mem_replicate.1 he).2]; exact hezl) (RdLL.replicate (rdL_v ez hez1) _)
  have hm' : Mem C g st w.drew := ⟨hm.os, hm.tape, hm.output, hm.size, hm.old, hm.fresh, hm.box, hm.row, hm.imm, hm.keep, hm.np, hm.hs.same (Nat.le_refl _) rfl⟩
  have hb : Below w.heap.size w.drew (w.drew.alloc (.cells (Builtin.zeroCells zz.cells N ++ Builtin.zeroCells zz.cells (grownCap w N 0 e - N)) e)) := Below.alloc (w := w.drew) (Below.refl _ _) (Nat.le_refl _) _
  refine ⟨.value (.slice (some ⟨w.heap.size, 0, none⟩) N (grownCap w N 0 e)), _, g.addRow _, _, _, _, ?_, .inl rfl, hk, ⟨by simp [Gh.addRow, ht.nr], .inl ⟨_, _, _, rfl⟩, by simp [Gh.addRow, ht.nr]⟩, ht.newRow _ _ rfl (by simp) (fun _ _ _ h => h), own_new hm' ht.nr hrow, fun _ => ⟨g.le_addRow _, fun b hlt _ => hb.block b hlt⟩⟩
  simp only [execOp, ho, resolve, invoke, builtin, Sem.run_bind, Sem.run_pure, Result.andThen_ok, List.map_toArray, List.map_cons, List.map_nil, e1, e2, hrun]
 ·exact h.elim

theorem flat_take {es : Nat} : ∀ (els : List (List Value)) (n : Nat), (∀ e ∈ els, e.length = es) → (els.take n).flatten = els.flatten.take (n * es)
 | [], n, _ => by simp
 | x :: els, 0, _ => by simp
 | x :: els, n + 1, h => by
  have hx := h x (by simp)
  simp only [List.take_succ_cons, List.flatten_cons]
  rw [flat_take els n (fun e he => h e (by simp [he])), Nat.succ_mul, ← hx, Nat.add_comm (n * x.length), List.take_length_add_append]

theorem e_tr (hT : TabOk C.P T) {t : TypeId} {x : Operand} {hi : Option Operand} (ho : o.op = .slice t x none hi none) {r : Nat} (hx : st.ev x = .row r) {l : Lk (st, K)} (h : trX (tlook T t) r (nth st.rw r) (hi.map st.ev) st K l) : OpE .no C o st K := by
 unfold trX at h
 split at h
 ·rename_i z q e es eb ez m e' s els kh hh hti hr hhi
  rw [nth_eq] at hr
  split at h
  ·rename_i hes
   obtain ⟨rfl, rfl⟩ := hes
   obtain ⟨⟨h0, hle⟩, hk⟩ := h
   unfold pass at hk
   rw [lenN_eq, setN_eq] at hk
   obtain ⟨_, ⟨hu, i, hii, hsz, hby, hes, heb, hez1, zz, hz, hzz, hezl⟩, _⟩ := hT _ _ hti
   refine OpE.of_value fun g a w ht hm => ?_
   obtain ⟨hrow, htg⟩ := hm.row _ _ _ _ hr
   have e1 := rel_ev ht x; rw [hx] at e1; replace e1 := e1.1
   obtain ⟨y, rfl⟩ : ∃ y, hi = some y := by cases hi with
    | none => cases hhi
    | some y => exact ⟨y, rfl⟩
   simp only [Option.map_some, Option.some.injEq] at hhi
   have e2 := rel_ev ht y; rw [hhi] at e2; simp only [rel] at e2
   have he : C.P.elem t = e := by simp [Program.elem, hu]
   have hu' : C.P.underlying t = some (.slice (C.P.elem t)) := by rw [he]; exact hu
   have hz' : ∀ w, (sizeOf (C.P.elem t)).run C.P w = .ok s w := fun w => by rw [he]; simp [sizeOf, typeInfo, hii, hsz]
   have hne : ∀ k e' s' l, (st.rw.set r .gone)[k]? = some (.own e' s' l) → k ≠ r ∧ st.rw[k]? = some (.own e' s' l) := fun k e' s' l hk => by
    rw [List.getElem?_set] at hk
    split at hk
    ·split at hk <;> cases hk
    ·rename_i h; exact ⟨fun e => h e.symm, hk⟩
   have hrow0 := hrow
   obtain ⟨hs0, vss, hown, hvs, hrd⟩ := hrow.tab hes
   have hvl := hrd.len
   have hfl : vss.flatten.length = vss.length * s := hown.1
   have hml : hh.toNat * s ≤ vss.length * s := Nat.mul_le_mul_right _ (by omega)
   obtain ⟨v', hrun, hrow', hat⟩ : ∃ v', (Instr.sliceAt t (g.σ r) none (some (.int kh hh)) none).run C.P w = .ok v' w ∧ RowOk g.μ C.w0.heap.size w v' e s (els.take hh.toNat) ∧ ob v' = ob (g.σ r) := by
    have hel : ∀ e' ∈ vss.take hh.toNat, e'.length = s := fun e' he => hvs e' (List.mem_of_mem_take he)
    have hlen : (vss.take hh.toNat).length = hh.toNat := by rw [List.length_take]; omega
    rcases hown.2 with ⟨hv, h2⟩ | ⟨gg, cap, cur, hv, hb, hcur, hnc, hcm, hcs, htake⟩
    ·have : hh = 0 := by omega
     subst this
     refine ⟨.slice none 0 0, ?_, .inl ⟨hs0, [], World.ownsRow_nil _ _ _ _, by simp, by simp [RdLL]⟩, by rw [hv]⟩
     rw [hv, run_sliceAt_slice _ _ _ _ _ _ hu', run_slice_h _ _ _ _ _ hu' _ _ (by omega) (by omega), hz']
     rfl
    ·refine ⟨.slice (some ⟨gg, 0, none⟩) hh.toNat cap, ?_, .inl ⟨hs0, vss.take hh.toNat, ⟨?_, .inr ⟨gg, cap, cur, by rw [hlen], hb, hcur, by omega, hcm, hcs, ?_⟩⟩, hel, hrd.take _⟩, by rw [hv]; rfl⟩
     ·rw [hv, run_sliceAt_slice _ _ _ _ _ _ hu', run_slice_h _ _ _ _ _ hu' _ _ h0 (by omega), hz']
      simp [Result.andThen, sliced, Addr.add_lit]
     ·rw [flat_take vss _ hvs, List.length_take, hfl, hlen]; omega
     ·rw [hlen, flat_take vss _ hvs, ← htake, List.take_take]; congr 1; omega
   refine ⟨.value v', w, g.addRow v', _, _, _, ?_, .inl rfl, hk, ⟨by simp [Gh.addRow, ht.nr], ?_, by simp [Gh.addRow, ht.nr]⟩, ht.newRow _ _ (by simp) (by simp) (fun k s' e' hk => ?_), ?_, fun _ => ⟨g.le_addRow _, Fr.refl _ _ _⟩⟩
   ·simp only [execOp, ho, e1, e2, Option.map_none, Option.map_some]
    exact run_v' hrun
   ·obtain ⟨_, vss', hrow', _⟩ := hrow'.tab hes
    rcases hrow'.2 with ⟨hv, _⟩ | ⟨gg, cap, cur, hv, _⟩ <;> exact .inl ⟨_, _, _, hv⟩
   ·rw [List.getElem?_set] at hk
    split at hk
    ·split at hk <;> cases hk
    ·exact hk
   ·refine hm.newRow ht.nr rfl rfl rfl (Nat.le_refl _) hrow' (by simp) (fun k e' s' l hk => ?_) (rb := none) (fun b hb => by cases hb) (fun b _ _ _ => rfl) (fun b hv hb => ⟨r, htg b (by rw [← hat]; exact hv)⟩)
    obtain ⟨hkr, hk'⟩ := hne _ _ _ _ hk
    refine ⟨hk', fun b hb hv => ?_⟩
    obtain ⟨hrk, htk⟩ := hm.row _ _ _ _ hk'
    have h1 := htk b hb
    have h2 := htg b (by rw [← hat]; exact hv)
    rw [h1] at h2; cases h2; exact hkr rfl
  ·exact h.elim
 ·exact h.elim

/-- an operation whose answer is open. -/
theorem e_open {Q : Value → Prop} (hv : ∀ u, Q u → K (.v u) st) (h : ∀ g a w, TmOk C g st a → Mem C g st w → ∃ u, Q u ∧ (execOp a.eval o).run C.P w = .ok (.value u) w) : OpE .no C o st K := OpE.of_value fun g a w ht hm => by
 obtain ⟨u, h1, h2⟩ := h g a w ht hm
 exact ⟨_, w, g, st, .v u, u, h2, .inl rfl, hv u h1, rfl, ht, hm, fun _ => ⟨.refl _, .refl _ _ _⟩⟩

theorem nilC_sound (hT : TabOk C.P T) {op : BinOp} {t u : TypeId} {x y : Operand} (ho : o.op = .binOp op t x y u) (hy : st.ev y = .v (.slice none 0 0)) {els : List (List D)} (hx : ∀ g a w, TmOk C g st a → Mem C g st w → ∃ A n c, a.eval x = .slice A n c ∧ (A = none → els = [])) {l : Lk (bK st K)} (h : nilC (tlook T t) op els (bK st K) l) : OpE .no C o st K := by
 have gd : ∀ A n c n' c', eqGuard op t x y (.slice A n c) (.slice none n' c') = pure () := fun A n c n' c' => by cases op <;> rfl
 unfold nilC at h
 split at h
 ·rename_i hti
  obtain ⟨_, ⟨hu, _⟩, _⟩ := hT _ _ hti
  refine e_open (Q := fun u => ∃ z : Bool, u = .bool z ∧ (z = true → els = [])) (fun u ⟨z, e, hz⟩ => by subst e; exact h z hz) fun g ac w ht hm => ?_
  obtain ⟨A, n, c, e1, hA⟩ := hx g ac w ht hm
  have e2 := rel_ev ht y; rw [hy] at e2; simp only [rel] at e2
  refine ⟨.bool A.isNone, ⟨_, rfl, fun hz => hA (by simpa using hz)⟩, ?_⟩
  simp only [execOp, ho]
  apply run_v'
  rw [e1, e2, gd]
  simp only [Sem.run_bind, Sem.run_pure, Result.andThen_ok, Lib.run_eql_slice_nil w t _ A n c _ _ hu]
 ·rename_i hti
  obtain ⟨_, ⟨hu, _⟩, _⟩ := hT _ _ hti
  refine e_open (Q := fun u => ∃ z : Bool, u = .bool z ∧ (z = false → els = [])) (fun u ⟨z, e, hz⟩ => by subst e; exact h z hz) fun g ac w ht hm => ?_
  obtain ⟨A, n, c, e1, hA⟩ := hx g ac w ht hm
  have e2 := rel_ev ht y; rw [hy] at e2; simp only [rel] at e2
  refine ⟨.bool (!A.isNone), ⟨_, rfl, fun hz => hA (by simpa using hz)⟩, ?_⟩
  simp only [execOp, ho]
  apply run_v'
  rw [e1, e2, gd]
  simp only [Sem.run_bind, Sem.run_pure, Result.andThen_ok, binOp]
  simp [Op.equal, Op.maxDepth, Lib.run_equalIn_slice_nil w 9999 t _ A n c _ _ hu]
 ·exact h.elim

theorem e_bin (hT : TabOk C.P T) {op : BinOp} {t u : TypeId} {x y : Operand} (ho : o.op = .binOp op t x y u) {l : Lk (st, K)} (h : bin2X (tlook T t) op (st.ev x) (st.ev y) st K l) : OpE .no C o st K := by
 unfold bin2X at h
 split at h
 ·rename_i b sz els hx hy
  refine nilC_sound hT ho hy (fun g a w ht hm => ?_) h
  have e1 := rel_ev ht x; rw [hx] at e1; simp only [rel, Rd] at e1
  obtain ⟨A, c, e1, hc, hE⟩ := e1
  refine ⟨A, _, c, e1, fun hA => ?_⟩
  cases els with
  | nil => rfl
  | cons e els => simp only [RdE] at hE; obtain ⟨⟨_, ad, hA', _⟩, _⟩ := hE; rw [hA] at hA'; cases hA'
 ·rename_i r hx hy
  unfold nilR at h
  split at h
  ·rename_i e' s els hr
   rw [nth_eq] at hr
   split at h
   ·exact h.elim
   rename_i hsz0
   refine nilC_sound hT ho hy (fun g a w ht hm => ?_) h
   have e1 := rel_ev ht x; rw [hx] at e1; replace e1 := e1.1
   obtain ⟨hrow0, _⟩ := hm.row _ _ _ _ hr
   obtain ⟨hs0, vss, hown, hvs, hrd⟩ := hrow0.tab (by omega)
   rcases hown.2 with ⟨hv, h2⟩ | ⟨gg, cap, cur, hv, _⟩
   ·exact ⟨none, 0, 0, by rw [e1, hv], fun _ => List.eq_nil_of_length_eq_zero (by rw [← hrd.len]; exact h2)⟩
   ·exact ⟨_, _, _, by rw [e1, hv], fun hA => by cases hA⟩
  ·exact h.elim
 ·rename_i hx hy
  refine nilC_sound hT ho hy (fun g a w ht hm => ?_) h
  have e1 := rel_ev ht x; rw [hx] at e1; simp only [rel] at e1
  exact ⟨none, 0, 0, e1, fun _ => rfl⟩
 ·obtain ⟨v, h1, h2⟩ := q_bin hT ho h
  refine e_quiet (h1.quiet ?_) h2
  rw [ho]; rfl

theorem e_bin3 (hT : TabOk C.P T) {op : BinOp} {t u : TypeId} {x y : Operand} (ho : o.op = .binOp op t x y u) {l : Lk (st, K)} (h : bin3X y (tlook T t) op (st.ev x) (st.ev y) st K l) : OpE .no C o st K := by
 unfold bin3X at h
 split at h
 ·rename_i hti
  obtain ⟨v, h1, h2⟩ := q_ifc hT hti ho h
  refine e_quiet (h1.quiet ?_) h2
  rw [ho]; rfl
 ·exact e_bin hT ho h

theorem e_cap (hT : TabOk C.P T) {t : TypeId} {x : Operand} (ho : o.op = .call { callee := .builtin .cap, args := #[x], argTypes := #[t] }) {l : Lk (st, K)} (h : capX (tlook T t) (st.ev x) st K l) : OpE .no C o st K := by
 have key : ∀ {s z e es eb ez m} (_ : tlook T t = some ⟨s, z, .sl e es eb ez, m⟩) (els : List (List D)), (∀ c : Nat, els.length ≤ c → K (.v (.int .i64 c)) st) → (∀ g a w, TmOk C g st a → Mem C g st w → ∃ A n c, a.eval x = .slice A n c ∧ els.length ≤ c) → OpE .no C o st K := fun {s z e es eb ez m} hti els hk hx => by
  obtain ⟨_, ⟨hu, _⟩, _⟩ := hT _ _ hti
  refine e_open (Q := fun u => ∃ c : Nat, u = .int .i64 c ∧ els.length ≤ c) (fun u ⟨c, e, hc⟩ => by subst e; exact hk c hc) fun g a w ht hm => ?_
  obtain ⟨A, n, c, e1, hc⟩ := hx g a w ht hm
  exact ⟨_, ⟨c, rfl, hc⟩, by simp [execOp, ho, resolve, invoke, builtin, e1, Builtin.cap_, run_underlying hu, goInt]⟩
 unfold capX at h
 split at h
 ·rename_i z q e es eb ez m b sz els hti hx
  refine key hti els h fun g a w ht hm => ?_
  have e1 := rel_ev ht x; rw [hx] at e1; simp only [rel, Rd] at e1
  obtain ⟨A, c, e1, hc, _⟩ := e1
  exact ⟨A, _, c, e1, hc⟩
 ·rename_i z q e es eb ez m hti hx
  obtain ⟨_, ⟨hu, _⟩, _⟩ := hT _ _ hti
  refine e_open (Q := fun u => u = .int .i64 (0 : Nat)) (fun u e => by subst e; exact h) fun g a w ht hm => ⟨_, rfl, ?_⟩
  have e1 := rel_ev ht x; rw [hx] at e1; simp only [rel] at e1
  simp [execOp, ho, resolve, invoke, builtin, e1, Builtin.cap_, run_underlying hu, goInt]
 ·rename_i z q e es eb ez m r hti hx
  unfold capR at h
  split at h
  ·rename_i e' s els hr
   rw [nth_eq] at hr
   split at h
   ·exact h.elim
   rename_i hsz0
   refine key hti els h fun g a w ht hm => ?_
   have e1 := rel_ev ht x; rw [hx] at e1; replace e1 := e1.1
   obtain ⟨hrow0, _⟩ := hm.row _ _ _ _ hr
   obtain ⟨hs0, vss, hown, hvs, hrd⟩ := hrow0.tab (by omega)
   rcases hown.2 with ⟨hv, h2⟩ | ⟨gg, cap, cur, hv, _, _, hnc, _⟩
   ·exact ⟨none, 0, 0, by rw [e1, hv], by rw [← hrd.len]; omega⟩
   ·exact ⟨_, _, _, by rw [e1, hv], by rw [← hrd.len]; exact hnc⟩
  ·exact h.elim
 ·exact h.elim

/-- a part of an own row: the row becomes immutable. -/
theorem e_slR (hT : TabOk C.P T) {t : TypeId} {x : Operand} {lo hi : Option Operand} (ho : o.op = .slice t x lo hi none) {rs : List Nat} {l : Lk K} (h : slR (tlook T t) x lo hi K (frzX rs st) l) : OpE .no C o st K := OpE.of_value fun g a w ht0 hm0 => by
 obtain ⟨g1, hle, ht, hm, _, _⟩ := frz_sound rs ht0 hm0
 obtain ⟨v, h1, h2⟩ := q_sli (st := frzX rs st) hT ho h
 obtain ⟨u, k1, k2⟩ := h1 g1 a w ht hm
 exact ⟨_, w, g1, _, v, u, k2 w, .inl rfl, h2, k1, ⟨by rw [ht.nb], ht.nr, ht.defers, ht.size, ht.tm, ht.frz, ht.pin⟩, hm, fun _ => ⟨hle, .refl _ _ _⟩⟩
theorem e_tcR (hT : TabOk C.P T) {t : TypeId} {x hh mm : Operand} (ho : o.op = .slice t x none (some hh) (some mm)) {rs : List Nat} {l : Lk K} (h : tcR (tlook T t) x hh mm K (frzX rs st) l) : OpE .no C o st K := OpE.of_value fun g a w ht0 hm0 => by
 obtain ⟨g1, hle, ht, hm, _, _⟩ := frz_sound rs ht0 hm0
 obtain ⟨v, h1, h2⟩ := q_tc (st := frzX rs st) hT ho h
 obtain ⟨u, k1, k2⟩ := h1 g1 a w ht hm
 exact ⟨_, w, g1, _, v, u, k2 w, .inl rfl, h2, k1, ⟨by rw [ht.nb], ht.nr, ht.defers, ht.size, ht.tm, ht.frz, ht.pin⟩, hm, fun _ => ⟨hle, .refl _ _ _⟩⟩

end

/-! ### own boxes that become immutable -/
def Gh.frzB (g : Gh) (k : Nat) (w : World) : Gh :=
 { g with tag := fun x => if x = g.ρ k then .imm else g.tag x, μ := fun f => if f then (g.μ true).join (fun b => if b = g.ρ k then w.heap[b]? else none) else g.μ false }
theorem frzB_one {C : Cx} {g : Gh} {st : St} {a : Act} {w : World} (hm : Mod C g st a w) {k : Nat} {b : Bx} (hk : st.bx[k]? = some (some b)) {ds : List D} (hds : toDL st.rw b.cells = some ds)
  (hbase : ∀ x, frS C g.fo true x = false → C.w0.heap.size ≤ x ∧ C.pin.np x = false) :
  g.Le (g.frzB k w) ∧ Mod C (g.frzB k w) { st with bx := setN st.bx k none } a w ∧ ∀ o u, rel g (.box k o) u → rel (g.frzB k w) (.pt true (dropN o ds)) u := by
 obtain ⟨h1, cs, h2, h3⟩ := hm.mem.box k b hk
 have hle : g.Le (g.frzB k w) := ⟨Nat.le_refl _, Nat.le_refl _, fun _ _ => rfl, fun _ _ => rfl, fun f => by
  cases f
  ·exact .refl _
  ·exact Hp.le_join_left _ _⟩
 have hμt : (g.frzB k w).μ true = (g.μ true).join (fun b => if b = g.ρ k then w.heap[b]? else none) := rfl
 have hnew : Hp.In (fun b => if b = g.ρ k then w.heap[b]? else none) w := fun x o hx => by
  have hx : (if x = g.ρ k then w.heap[x]? else none) = some o := hx
  split at hx
  ·exact hx
  ·cases hx
 have htx : ∀ x, g.tag x = .imm → (g.frzB k w).tag x = .imm := fun x hx => by simp only [Gh.frzB]; split <;> simp [hx]
 have hne : ∀ x, g.tag x = .imm → x ≠ g.ρ k := fun x hx e => by rw [e, h1] at hx; cases hx
 have hmem : ((g.frzB k w).μ true).In w := by rw [hμt]; exact (hm.mem.imm true).1.join hnew
 have hblk : (g.frzB k w).μ true (g.ρ k) = some (.cells cs b.ty (0, 0)) := by
  have h4 : (fun b => if b = g.ρ k then w.heap[b]? else none : Hp) (g.ρ k) = some (.cells cs b.ty (0, 0)) := by simpa using h2
  exact Hp.le_join_right (hm.mem.imm true).1 hnew _ _ h4
 refine ⟨hle, ⟨⟨by simpa [setN_eq, Gh.frzB] using hm.tm.nb, hm.tm.nr, hm.tm.defers.mono (hle.μ false), hm.tm.size, fun t => rel_mono hle _ _ (hm.tm.tm t), fun k s e hk => (hm.tm.frz k s e hk).mono hle.μ, hm.tm.pin.mono hle⟩,
  hm.mem.os, hm.mem.tape, hm.mem.output, hm.mem.size, fun q x hx => ⟨(hm.mem.old q x hx).1, htx x (hm.mem.old q x hx).2⟩, fun x hx => htx x (hm.mem.fresh x hx), fun j bx hj => ?_, fun j e s els hj => ?_, fun f => ?_, fun x o hx => ?_, fun x hx => ⟨htx x (hm.mem.np x hx).1, (hm.mem.np x hx).2⟩, hm.mem.hs.next rfl rfl rfl (Nat.le_refl _) (fun f x o hx => ?_) fun k s ys hk => ⟨k, hk⟩⟩, fun o u hu => ?_⟩
 ·rw [setN_eq, List.getElem?_set] at hj
  split at hj
  ·split at hj <;> cases hj
  ·rename_i hkj
   obtain ⟨h4, c2, h5, h6⟩ := hm.mem.box j bx hj
   refine ⟨?_, c2, h5, rels_mono hle _ _ h6⟩
   show (if g.ρ j = g.ρ k then Tag.imm else g.tag (g.ρ j)) = _
   rw [if_neg (fun e => by rw [e, h1] at h4; cases h4; exact hkj rfl)]
   exact h4
 ·obtain ⟨h4, h5⟩ := hm.mem.row j e s els hj
  refine ⟨h4.mono hle.μ, fun x hx => ?_⟩
  show (if x = g.ρ k then Tag.imm else g.tag x) = _
  rw [if_neg (fun e => by have h6 := h5 x hx; rw [e, h1] at h6; cases h6)]
  exact h5 x hx
 ·cases f
  ·exact ⟨(hm.mem.imm false).1, fun x o hx => htx x ((hm.mem.imm false).2 x o hx)⟩
  ·refine ⟨hmem, fun x o hx => ?_⟩
   rw [hμt] at hx
   rcases Hp.join_some hx with h | h
   ·exact htx x ((hm.mem.imm true).2 x o h)
   ·split at h
    ·rename_i hx'; simp [Gh.frzB, hx']
    ·cases h
 ·rw [hμt] at hx
  rcases Hp.join_some hx with h | h
  ·exact hm.mem.keep x o h
  ·split at h
   ·rename_i hx'
    have : frS C g.fo true x = false := by
     cases hf : frS C g.fo true x with
     | false => rfl
     | true => exact (hne x (hm.mem.old true x hf).2 hx').elim
    exact ⟨.inl (hbase x this).1, (hbase x this).2⟩
   ·cases h
 ·cases f
  ·exact .inl hx
  ·rw [hμt] at hx
   rcases Hp.join_some hx with h | h
   ·exact .inl h
   ·split at h
    ·rename_i hx'
     right
     refine ⟨?_, ?_⟩
     ·cases hmp : g.mp x with
      | false => rfl
      | true => exact (hne x (hm.mem.old false x (hm.mem.hs.mp x hmp).1).2 hx').elim
     ·cases hlp : C.pin.ho.lp x with
      | false => rfl
      | true => exact (hne x (hm.mem.old true x (hm.mem.hs.lp x hlp).1).2 hx').elim
    ·cases h
 ·obtain ⟨rfl, _⟩ := hu
  have hr := (rels_toD hm.tm _ _ _ hds h3).mono hle.μ
  show Rd (g.frzB k w).μ (.pt true (dropN o ds)) _
  simp only [Rd]
  refine ⟨_, rfl, ?_⟩
  have h5 : RdC (g.frzB k w).μ ds true ⟨g.ρ k, 0, none⟩ 0 := RdC.of hr fun j x hj => by
   have : Hp.cell ((g.frzB k w).μ true) ((⟨g.ρ k, 0, none⟩ : Addr).add (0 + j)) = some x := by
    unfold Hp.cell
    rw [add_block]
    rw [show (⟨g.ρ k, 0, none⟩ : Addr).block = g.ρ k from rfl, hblk]
    have e1 : ((⟨g.ρ k, 0, none⟩ : Addr).add (0 + j)).spot = none := by unfold Addr.add; split <;> rfl
    have e2 : ((⟨g.ρ k, 0, none⟩ : Addr).add (0 + j)).off = j := by
     unfold Addr.add
     split
     ·rename_i h; simp at h; simp [h]
     ·simp
    simp only [e1, e2, Option.isSome_none, Bool.false_eq_true, if_false]
    simpa using hj
   exact this
  have h6 := (h5.drop o)
  have h7 := h6.shift (n := o) (j := 0)
  rw [dropN_eq]
  have e3 : ((⟨g.ρ k, 0, none⟩ : Addr).add o) = ⟨g.ρ k, o, none⟩ := by
   unfold Addr.add
   split
   ·rename_i h; simp [h]
   ·simp
  rw [e3] at h7
  exact h7

section
variable {C : Cx} {T : Tab} {o : Oper} {st : St} {K : SV → St → Prop}
theorem chuO_len {es : Nat} : ∀ (n : Nat) (ds : List D) (els : List (List D)), chuO es n ds = some els → els.length = n
 | 0, _, els, h => by simp [chuO] at h; simp [← h]
 | n + 1, ds, els, h => by
  unfold chuO chu2 at h
  split at h
  ·rename_i e l _ h2
   cases h
   simp [chuO_len n _ _ h2]
  ·cases h
theorem RdC.split {μ : Mu} {b : Bool} {a : Addr} : ∀ {l : List D} {j : Nat} (n : Nat), RdC μ l b a j → RdC μ (l.take n) b a j
 | _, _, 0, _ => by simp [RdC]
 | [], _, _ + 1, _ => by simp [RdC]
 | d :: l, j, n + 1, h => by
  simp only [RdC, List.take_succ_cons] at h ⊢
  exact ⟨h.1, RdC.split n h.2⟩
theorem RdE.chunks {μ : Mu} {b : Bool} {a : Addr} {es : Nat} : ∀ (n : Nat) (ds : List D) (els : List (List D)) (i : Nat), chuO es n ds = some els → RdC μ ds b a (i * es) → RdE μ els b (some a) es i
 | 0, _, els, _, h, _ => by simp [chuO] at h; subst h; simp [RdE]
 | n + 1, ds, els, i, h, hr => by
  unfold chuO chu2 at h
  split at h
  ·rename_i e l h1 h2
   cases h
   obtain ⟨he, hl⟩ := takeN_eq _ _ _ h1
   simp only [RdE]
   refine ⟨⟨hl, a, rfl, RdC.shift ?_⟩, RdE.chunks n _ _ (i + 1) h2 ?_⟩
   ·rw [Nat.zero_add, he]; exact hr.split es
   ·rw [dropN_eq, Nat.succ_mul]; exact hr.drop es
  ·cases h
theorem look_subT {k : Nat} {ds : List D} : ∀ (l : List (Nat × SV)) (t : Nat), look (subT k ds l) t = subV k ds (look l t)
 | [], t => by simp [subT, look, subV]
 | (u, x) :: l, t => by
  simp only [subT, look]
  split
  ·rfl
  ·exact look_subT l t
theorem arr_all {P : Program} {t e : TypeId} {n : Nat} {ii : TypeInfo} (hu : P.underlying t = some (.array n e)) (hi : P.info? e = some ii) (w : World) (a : Addr) :
  (Instr.sliceAt t (.pointer (some a)) none none none).run P w = .ok (.slice (some a) n n) w := by
 by_cases h : n = 0 <;> simp [Instr.sliceAt, run_underlying hu, Instr.sureAddr, Instr.sliceBounds, sizeOf, typeInfo, hi, addr0, h]

theorem e_slP (hT : TabOk C.P T) {t : TypeId} {x : Operand} (ho : o.op = .slice t x none none none) {b : Bool} {cs : List D} (hx : st.ev x = .pt b cs) {l : Lk (stK K st)} (h : slP (tlook T t) b cs (stK K st) l) : OpE .no C o st K := by
 unfold slP at h
 split at h
 ·rename_i a1 a2 n e es a3 hti
  unfold slP2 at h
  split at h
  ·rename_i els hels
   obtain ⟨_, ⟨hu, ⟨ii, hii, hsz⟩⟩, _⟩ := hT _ _ hti
   refine e_quiet (v := .sl b es els) (OpN.quiet (by rw [ho]; rfl) fun g a _ ht _ => ?_) h
   have e1 := rel_ev ht x; rw [hx] at e1; simp only [rel, Rd] at e1
   obtain ⟨ad, e1, hr⟩ := e1
   have hlen := chuO_len _ _ _ hels
   refine ⟨.slice (some ad) n n, ?_, fun w => ?_⟩
   ·show Rd _ (.sl b es els) _
    simp only [Rd]
    exact ⟨some ad, n, by rw [hlen], by omega, RdE.chunks n _ _ 0 hels (by simpa using hr)⟩
   ·simp only [execOp, ho, e1, Option.map_none]
    exact run_v (arr_all hu hii w ad)
  ·exact h.elim
 ·exact h.elim

theorem e_slB (hT : TabOk C.P T) {t : TypeId} {x : Operand} (ho : o.op = .slice t x none none none) {k : Nat} (hx : st.ev x = .box k 0) {l : Lk (st, K)} (h : slB C.pin (tlook T t) k (nth st.bx k) st K l) : OpE .no C o st K := by
 unfold slB at h
 split at h
 ·rename_i a1 a2 n e es a3 bb hti hb
  obtain ⟨⟨hp1, hp2⟩, h⟩ := h
  rw [nth_eq] at hb
  unfold slB2 at h
  split at h
  ·rename_i ds hds
   unfold slB3 at h
   split at h
   ·rename_i els hels
    unfold pass at h
    obtain ⟨_, ⟨hu, ⟨ii, hii, hsz⟩⟩, _⟩ := hT _ _ hti
    refine OpE.of_value fun g a w ht hm => ?_
    obtain ⟨hle, hmod, hbox⟩ := frzB_one (C := C) (g := g) (st := st) (a := a) (w := w) ⟨ht, hm⟩ hb hds (fun y hy => by
     refine ⟨?_, by rw [hp2]⟩
     simpa [frS, hp1] using hy)
    have e1 := rel_ev ht x; rw [hx] at e1
    have e2 := hbox 0 _ e1
    obtain ⟨e1, hkn⟩ := e1
    have hlen := chuO_len _ _ _ hels
    refine ⟨.value (.slice (some ⟨g.ρ k, 0, none⟩) n n), w, g.frzB k w, _, _, _, ?_, .inl rfl, h, ?_, ⟨by rw [hmod.tm.nb], hmod.tm.nr, hmod.tm.defers, hmod.tm.size, fun t => ?_, hmod.tm.frz, hmod.tm.pin⟩, ⟨hmod.mem.os, hmod.mem.tape, hmod.mem.output, hmod.mem.size, hmod.mem.old, hmod.mem.fresh, hmod.mem.box, hmod.mem.row, hmod.mem.imm, hmod.mem.keep, hmod.mem.np, hmod.mem.hs.same (Nat.le_refl _) rfl⟩, fun _ => ⟨hle, .refl _ _ _⟩⟩
    ·simp only [execOp, ho, e1, Option.map_none]
     exact run_v' (arr_all hu hii w _)
    ·show Rd _ (.sl true es els) _
     simp only [rel, Rd, dropN] at e2
     obtain ⟨ad, had, hr⟩ := e2
     rw [e1] at had; cases had
     simp only [Rd]
     exact ⟨_, n, by rw [hlen], by omega, RdE.chunks n _ _ 0 hels (by simpa using hr)⟩
    ·show rel _ (look (subT k ds st.tm) t) _
     rw [look_subT]
     have h0 := ht.tm t
     generalize look st.tm t = y at h0 ⊢
     cases y with
     | box j p =>
      simp only [subV]
      split
      ·rename_i hj; subst hj; exact hbox p _ h0
      ·exact rel_mono hle _ _ h0
     | _ => exact rel_mono hle _ _ h0
   ·exact h.elim
  ·exact h.elim
 ·exact h.elim
end

/-! ### a string's bytes; parts of strings and arrays -/
def Gh.addImm (g : Gh) (b : Nat) (o : Obj) : Gh := { g with μ := fun f => if f then (g.μ true).join (fun x => if x = b then some o else none) else g.μ false }
theorem Mem.newImm {C : Cx} {g : Gh} {st : St} {w w' : World} (h : Mem C g st w) (hb : Below w.heap.size w w') {b : Nat} (hbb : w.heap.size ≤ b) {o : Obj} (hc : w'.heap[b]? = some o) : g.Le (g.addImm b o) ∧ Mem C (g.addImm b o) st w' ∧ (g.addImm b o).μ true b = some o := by
 have hE := h.ext hb
 have hle : g.Le (g.addImm b o) := ⟨Nat.le_refl _, Nat.le_refl _, fun _ _ => rfl, fun _ _ => rfl, fun f => by
  cases f
  ·exact .refl _
  ·exact Hp.le_join_left _ _⟩
 have hμt : (g.addImm b o).μ true = (g.μ true).join (fun x => if x = b then some o else none) := rfl
 have hnew : Hp.In (fun x => if x = b then some o else none) w' := fun x y hx => by
  have hx : (if x = b then some o else none) = some y := hx
  split at hx
  ·rename_i e; cases hx; rw [e]; exact hc
  ·cases hx
 have hsp : ∀ x y, (g.addImm b o).μ true x = some y → g.μ true x = some y ∨ x = b := fun x y hx => by
  rw [hμt] at hx
  rcases Hp.join_some hx with h1 | h1
  ·exact .inl h1
  ·split at h1
   ·rename_i e; exact .inr e
   ·cases h1
 refine ⟨hle, ⟨hE.os, hE.tape, hE.output, hE.size, hE.old, hE.fresh, fun k bx hk => ?_, fun k e s els hk => ?_, fun f => ?_, fun x y hx => ?_, hE.np, hE.hs.next rfl rfl rfl (Nat.le_refl _) (fun f x y hx => ?_) fun k s ys hk => ⟨k, hk⟩⟩, Hp.le_join_right (hE.imm true).1 hnew b o (by simp)⟩
 ·obtain ⟨h1, cs, h2, h3⟩ := hE.box k bx hk
  exact ⟨h1, cs, h2, rels_mono hle _ _ h3⟩
 ·obtain ⟨h1, h2⟩ := hE.row k e s els hk
  exact ⟨h1.mono hle.μ, h2⟩
 ·cases f
  ·exact hE.imm false
  ·refine ⟨by rw [hμt]; exact (hE.imm true).1.join hnew, fun x y hx => ?_⟩
   rcases hsp x y hx with h1 | rfl
   ·exact (hE.imm true).2 x y h1
   ·exact h.fresh x hbb
 ·rcases hsp x y hx with h1 | rfl
  ·exact h.keep x y h1
  ·refine ⟨.inl (Nat.le_trans h.size hbb), ?_⟩
   cases hnp : C.pin.np x with
   | false => rfl
   | true => have := (h.np x hnp).2; omega
 ·cases f
  ·exact .inl hx
  ·rcases hsp x y hx with h1 | rfl
   ·exact .inl h1
   ·refine .inr ⟨?_, ?_⟩
    ·cases hmp : g.mp x with
     | false => rfl
     | true => have := h.hs.lt false x (h.hs.mp x hmp).1; omega
    ·cases hlp : C.pin.ho.lp x with
     | false => rfl
     | true => have := h.hs.lt true x (h.hs.lp x hlp).1; omega

section
variable {C : Cx} {T : Tab} {o : Oper} {st : St} {K : SV → St → Prop}
theorem rd_bytes {μ : Mu} : ∀ {l : List UInt8} {vss : List (List Value)}, RdLL μ (l.map fun b => [D.v (.int .u8 (b.toNat : Int))]) vss → vss.flatten = l.map fun b => Value.int .u8 (b.toNat : Int)
 | [], [], _ => rfl
 | b :: l, vs :: vss, h => by
  simp only [List.map_cons, RdLL] at h
  obtain ⟨h1, h2⟩ := h
  match vs, h1 with
  | [v], h1 =>
   simp only [RdL, Rd] at h1
   have hv : v = Value.int .u8 (b.toNat : Int) := h1.1.1
   simp only [List.flatten_cons, List.map_cons, rd_bytes h2, hv]
   rfl
  | [], h1 => simp [RdL] at h1
  | _ :: _ :: _, h1 => simp [RdL] at h1
 | [], _ :: _, h => by simp [RdLL] at h
 | _ :: _, [], h => by simp [RdLL] at h
theorem e_conv (hT : TabOk C.P T) {s d : TypeId} {x : Operand} (ho : o.op = .convert s d x) {l : Lk (T, st, K)} (h : cvX T (tlook T s) (tlook T d) (st.ev x) st K l) : OpE .no C o st K := by
 unfold cvX at h
 split at h
 ·rename_i a1 a2 a3 b1 b2 e es eb ez b3 z hs hd hx
  obtain ⟨rfl, hbt, hk⟩ := h
  have hs1 : C.P.underlying s = some .string := (hT _ _ hs).2.1
  have hd1 : C.P.underlying d = some (.slice e) := (hT _ _ hd).2.1.1
  have he1 : C.P.underlying e = some (.int .u8) := by
   cases hte : tlook T e with
   | none => rw [hte] at hbt; cases hbt
   | some te =>
    rw [hte] at hbt
    obtain ⟨c1, c2, c3, c4⟩ := te
    unfold byteT at hbt
    split at hbt
    ·rename_i h1; cases h1; exact (hT _ _ hte).2.1
    ·cases hbt
  refine OpE.of_value fun g a w ht hm => ?_
  have ex := rel_ev ht x
  rw [hx] at ex
  simp only [rel] at ex
  have hrun := run_bytes_of_string (P := C.P) w s d e z hs1 hd1 he1
  have hge := grownCap_ge w z.size 0 e
  generalize grownCap w z.size 0 e = cap at hrun hge
  have hm' : Mem C g st w.drew := ⟨hm.os, hm.tape, hm.output, hm.size, hm.old, hm.fresh, hm.box, hm.row, hm.imm, hm.keep, hm.np, hm.hs.same (Nat.le_refl _) rfl⟩
  have hb : Below w.drew.heap.size w.drew (w.drew.alloc (.cells (bytesRow z cap) e ((bytesRow z cap).size, (bytesRow z cap).size + 1))) := Below.alloc (w := w.drew) (Below.refl _ _) (Nat.le_refl _) _
  obtain ⟨h1, h2, h3⟩ := hm'.newImm hb (Nat.le_refl _) (heap_alloc_new w.drew _)
  refine ⟨.value (.slice (some ⟨w.heap.size, 0, none⟩) z.size cap), _, g.addImm w.drew.heap.size (.cells (bytesRow z cap) e ((bytesRow z cap).size, (bytesRow z cap).size + 1)), st, .sl true 1 (bytesD z), _, ?_, .inl rfl, hk, ?_, ⟨ht.nb, ht.nr, ht.defers.mono (h1.μ false), ht.size, fun t => rel_mono h1 _ _ (ht.tm t), fun k s e hk => (ht.frz k s e hk).mono h1.μ, ht.pin.mono h1⟩, h2, fun _ => ⟨h1, fun b hlt _ => hb.block b hlt⟩⟩
  ·simp only [execOp, ho, ex]
   exact run_v' hrun
  ·show Rd _ (.sl true 1 (bytesD z)) _
   simp only [Rd]
   have hlen : (bytesD z).length = z.size := by simp [bytesD]
   refine ⟨some ⟨w.heap.size, 0, none⟩, cap, by rw [hlen], by rw [hlen]; exact hge, ?_⟩
   refine RdE.of (vss := z.data.toList.map fun b => [Value.int .u8 b.toNat]) (by omega) ?_ ?_ ?_
   ·unfold bytesD
    generalize z.data.toList = l
    induction l with
    | nil => simp [RdLL]
    | cons b l ih => simp only [List.map_cons, RdLL]; exact ⟨by simp [RdL, Rd, Value.oneCell'], ih⟩
   ·intro e' he'
    obtain ⟨b, _, rfl⟩ := List.mem_map.1 he'
    rfl
   ·intro j y hj
    have hfl : (z.data.toList.map fun b => [Value.int .u8 b.toNat]).flatten = z.data.toList.map fun b => Value.int .u8 b.toNat := by
     generalize z.data.toList = l
     induction l with
     | nil => rfl
     | cons b l ih => simp [ih]
    rw [hfl] at hj
    refine ⟨_, rfl, ?_⟩
    have hjl : j < z.data.size := by
     have := (List.getElem?_eq_some_iff.1 hj).1
     simpa using this
    unfold Hp.cell
    rw [add_block, show (⟨w.heap.size, 0, none⟩ : Addr).block = w.drew.heap.size from rfl, h3]
    have e1 : ((⟨w.heap.size, 0, none⟩ : Addr).add (0 * 1 + j)).spot = none := by unfold Addr.add; split <;> rfl
    have e2 : ((⟨w.heap.size, 0, none⟩ : Addr).add (0 * 1 + j)).off = j := by
     unfold Addr.add
     split
     ·rename_i h; simp at h; simp [h]
     ·simp
    simp only [e1, e2, Option.isSome_none, Bool.false_eq_true, if_false, bytesRow]
    rw [Array.getElem?_append_left (by simpa using hjl)]
    simpa using hj
 ·rename_i a1 a2 e es eb ez a3 b1 b2 b3 r hs hd hx
  obtain ⟨hbt, hc⟩ := h
  have hs1 : C.P.underlying s = some (.slice e) := (hT _ _ hs).2.1.1
  have hd1 : C.P.underlying d = some .string := (hT _ _ hd).2.1
  have he1 : C.P.underlying e = some (.int .u8) := by
   cases hte : tlook T e with
   | none => rw [hte] at hbt; cases hbt
   | some te =>
    rw [hte] at hbt
    obtain ⟨c1, c2, c3, c4⟩ := te
    unfold byteT at hbt
    split at hbt
    ·rename_i h1; cases h1; exact (hT _ _ hte).2.1
    ·cases hbt
  unfold CvR at hc
  split at hc
  ·rename_i ety sz els hrow
   obtain ⟨rfl, hlen, z, hz, hk⟩ := hc
   refine OpE.of_value fun g a w ht hm => ?_
   have ex := rel_ev ht x
   rw [hx] at ex
   simp only [rel] at ex
   rw [nth_eq] at hrow
   obtain ⟨-, vss, how, hl1, hrd⟩ := (hm.row _ _ _ _ hrow).1.tab (by decide)
   have hlv := hrd.len
   subst hz
   have hfl := rd_bytes hrd
   have hzl : (bytesD z).length = z.data.toList.length := by simp [bytesD]
   rcases how.2 with ⟨h1, h2⟩ | ⟨gg, cap, cur, h1, hb, hcur, hnc, hcm, hcs, htake⟩
   ·omega
   ·rw [h1] at ex
    have hrun := run_convert_bytes_back (P := C.P) w s d e ⟨gg, 0, none⟩ cap z.data.toList hs1 he1 hd1 fun j hj => by
     have hca : (⟨gg, 0, none⟩ : Addr).add j = ⟨gg, j, none⟩ := by
      unfold Addr.add
      split
      ·rename_i h
       first
       | (subst h; rfl)
       | simp_all
      ·simp
     have hcj : cur[j]? = some (Value.int .u8 (z.data.toList[j].toNat : Int)) := by
      have e1 : (cur.toList.take (vss.length * 1))[j]? = (z.data.toList.map fun b => Value.int .u8 (b.toNat : Int))[j]? := by rw [htake, hfl]
      rw [List.getElem?_take, if_pos (by omega), List.getElem?_map, List.getElem?_eq_getElem hj] at e1
      simpa using e1
     rw [hca]
     unfold World.cell?
     rw [hcur]
     simpa using hcj
    refine ⟨.value (.string z), w, g, st, .v (.string z), .string z, ?_, .inl rfl, hk, by simp [rel], ht, hm, fun _ => ⟨.refl g, .refl _ _ _⟩⟩
    simp only [execOp, ho, ex]
    rw [show vss.length = z.data.toList.length by omega]
    have hzz : (⟨z.data.toList.toArray⟩ : ByteArray) = z := by cases z; rfl
    rw [hzz] at hrun
    exact run_v' hrun
  ·exact hc.elim
 ·obtain ⟨v, h1, h2⟩ := q_conv hT ho h
  exact e_quiet (h1.quiet (by rw [ho]; rfl)) h2

theorem e_index (hT : TabOk C.P T) {t : TypeId} {x i : Operand} (ho : o.op = .index t x i) {l : Lk (stK K st)} (h : ixX T (tlook T t) (st.ev x) (st.ev i) (stK K st) l) : OpE .no C o st K := by
 have key : ∀ (v : SV), stK K st v → (∀ g a, TmOk C g st a → ∃ u, rel g v u ∧ ∀ w, (Instr.index t (a.eval x) (a.eval i)).run C.P w = .ok u w) → OpE .no C o st K := fun v hk hv => by
  refine e_quiet (v := v) (OpN.quiet (by rw [ho]; rfl) fun g a _ ht _ => ?_) hk
  obtain ⟨u, h1, h2⟩ := hv g a ht
  exact ⟨u, h1, fun w => by simp only [execOp, ho]; exact run_v (h2 w)⟩
 unfold ixX at h
 split at h
 ·rename_i a1 a2 a3 s kd j ht hx hi
  obtain ⟨h0, b, hb, hk⟩ := h
  have hu : C.P.underlying t = some .string := (hT _ _ ht).2.1
  refine key _ hk fun g a hg => ⟨_, rfl, fun w => ?_⟩
  have e1 := rel_ev hg x; rw [hx] at e1; simp only [rel] at e1
  have e2 := rel_ev hg i; rw [hi] at e2; simp only [rel] at e2
  rw [e1, e2]
  simp [Instr.index, asIntOf, run_underlying hu, h0, hb]
 ·rename_i a1 a2 n e es a3 cs kd j ht hx hi
  obtain ⟨_, ⟨hu, ⟨ii, hii, hsz⟩⟩, _⟩ := hT _ _ ht
  unfold ix2 at h
  split at h
  ·rename_i agg hagg
   obtain ⟨h0, hn, hk⟩ := h
   unfold aggT at hagg
   split at hagg
   ·rename_i te hte
    cases hagg
    have hte' := hT _ _ hte
    have hisz : ∀ w, (sizeOf e).run C.P w = .ok es w := fun w => by simp [sizeOf, typeInfo, hii, hsz]
    have main : ∀ (m : List SV), takeN es (dropN (j.toNat * es) cs) = some m → ∀ g a, TmOk C g st a → ∃ us : Array Value, a.eval x = .agg us ∧ a.eval i = .int kd j ∧ rels g m ((us.toList.drop (j.toNat * es)).take es) := fun m hm g a hg => by
     have e1 := rel_ev hg x; rw [hx] at e1
     obtain ⟨us, e1, hr⟩ := e1
     have e2 := rel_ev hg i; rw [hi] at e2; simp only [rel] at e2
     obtain ⟨rfl, _⟩ := takeN_eq _ _ _ hm
     exact ⟨us, e1, e2, rels_take _ (rels_dropN _ hr)⟩
    unfold arrK at hk
    split at hk
    ·rename_i l hta hvs
     refine key _ hk fun g a hg => ?_
     obtain ⟨us, e1, e2, hr⟩ := main _ hvs g a hg
     refine ⟨.agg (us.extract (j.toNat * es) (j.toNat * es + es)), ⟨_, rfl, ?_⟩, fun w => ?_⟩
     ·rw [Array.toList_extract]
      simpa [List.extract_eq_take_drop, Nat.add_sub_cancel_left] using hr
     ·rw [e1, e2]
      simp [Instr.index, asIntOf, run_underlying hu, h0, hn, hisz, part, isAgg_run hte', hta]
    ·rename_i c hta hvs
     refine key _ hk.2 fun g a hg => ?_
     obtain ⟨us, e1, e2, hr⟩ := main _ hvs g a hg
     have hl := (takeN_eq _ _ _ hvs).2
     simp only [List.length_singleton] at hl
     subst hl
     cases hd : us.toList.drop (j.toNat * 1) with
     | nil => rw [hd] at hr; simp [rels] at hr
     | cons u r =>
      rw [hd] at hr
      have h2 : us[j.toNat]? = some u := by
       have : (us.toList.drop (j.toNat * 1))[0]? = some u := by rw [hd]; rfl
       rw [List.getElem?_drop] at this
       simpa using this
      refine ⟨u, hr.1, fun w => ?_⟩
      rw [e1, e2]
      simp [Instr.index, asIntOf, run_underlying hu, h0, hn, hisz, part, isAgg_run hte', hta, h2]
    ·exact hk.elim
   ·cases hagg
  ·exact h.elim
 ·exact h.elim

end
end Go.Vx
