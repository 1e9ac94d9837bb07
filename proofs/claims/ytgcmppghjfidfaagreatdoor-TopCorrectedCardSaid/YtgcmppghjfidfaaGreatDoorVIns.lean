/-
 Calls that turn an own row: what they hand back is own again.
-/
import Derived.Test.YtgcmppghjfidfaaGreatDoorVAli
import Derived.Deep.Upon
import Derived.Shelf.Spec.SlicesInsertGrow
namespace Go.Vx
open Go Go.RowKit
set_option linter.unusedSimpArgs false
set_option linter.unusedVariables false
/-- of the world nothing but the row is touched. -/
structure Turned (w w' : World) (v v' : Value) : Prop where
 os : w'.os = w.os
 tape : w'.tape = w.tape
 output : w'.output = w.output
 size : w.heap.size ≤ w'.heap.size
 keep : ∀ b, b < w.heap.size → ob v ≠ some b → w'.heap[b]? = w.heap[b]?
 blk : ∀ b, ob v' = some b → ob v = some b ∨ w.heap.size ≤ b
/-- a function of an own row, a value and another own row that it only reads. -/
def Turn2 (P : Program) (f : FuncId) (e s : Nat) (els : List (List D)) (x : Value) (e2 s2 : Nat) (els2 els' : List (List D)) : Prop :=
 Ent P f ∧ ∀ (μ : Mu) (w : World) (base : Nat) (v u : Value), base ≤ w.heap.size → RowOk μ base w v e s els → RowOk μ base w u e2 s2 els2 → (∀ b, ob v = some b → ob u ≠ some b) →
  Calls P f #[v, x, u] w fun en w' => ∃ v', en = .returned v' ∧ RowOk μ base w' v' e s els' ∧ (∃ a n c, v' = .slice a n c) ∧ Turned w w' v v'
theorem CallI.turn2 {C : Cx} {st : St} {K : SV → St → Prop} {f r k e s e2 s2 : Nat} {els els2 els' : List (List D)} {x : Value} (hr : nth st.rw r = some (.own e s els)) (hk : nth st.rw k = some (.own e2 s2 els2)) (hs : s ≠ 0) (hrk : r ≠ k) (h : Turn2 C.P f e s els x e2 s2 els2 els')
  (hK : K (.row (lenN st.rw)) { st with rw := setN st.rw r .gone ++ [.own e s els'] }) : CallI C f [.row r, .v x, .row k] st K ⟨⟩ := fun g a w ht hm vs hv => by
 rw [nth_eq] at hr hk
 rw [lenN_eq, setN_eq] at hK
 match vs, hv with
 | [v, y, u], ⟨⟨h1, _, _⟩, h2, ⟨h3, _, _⟩, _⟩ =>
  simp only [rel] at h2
  subst h1 h2 h3
  obtain ⟨hrow, htg⟩ := hm.row _ _ _ _ hr
  obtain ⟨hrow2, htg2⟩ := hm.row _ _ _ _ hk
  refine ⟨h.1, (h.2 g.μ w C.w0.heap.size _ _ hm.size hrow hrow2 fun b hb hb2 => ?_).mono ?_⟩
  ·have q1 := htg b hb; have q2 := htg2 b hb2
   rw [q1] at q2; cases q2; exact hrk rfl
  rintro en w' ⟨v', rfl, hrow', ⟨a', n', c', hv'⟩, hT⟩
  have hne : ∀ k e' s' l, (st.rw.set r .gone)[k]? = some (.own e' s' l) → k ≠ r ∧ st.rw[k]? = some (.own e' s' l) := fun k e' s' l hk => by
   rw [List.getElem?_set] at hk
   split at hk
   ·split at hk <;> cases hk
   ·rename_i h; exact ⟨fun e => h e.symm, hk⟩
  have hoth : ∀ b, ob v' = some b → b < w.heap.size → ob (g.σ r) = some b := fun b hb hlt => (hT.blk b hb).elim (fun h => h) fun h => by omega
  refine ⟨v', rfl, g.addRow v', _, _, hK, ⟨by simp [Gh.addRow, ht.nr], .inl ⟨_, _, _, hv'⟩, by simp [Gh.addRow, ht.nr]⟩, ht.newRow _ _ (by simp) (by simp) (fun k s' e' hk => ?_), ?_, fun _ => ⟨g.le_addRow _, Fr.all⟩⟩
  ·rw [List.getElem?_set] at hk
   split at hk
   ·split at hk <;> cases hk
   ·exact hk
  ·refine hm.newRow ht.nr hT.os hT.tape hT.output hT.size hrow' (by simp) (fun k e' s' l hk => ?_) (rb := ob (g.σ r)) (fun b hb => ⟨r, htg b hb, fun e' s' l hk => (hne _ _ _ _ hk).1 rfl⟩) (fun b hb _ hrb => hT.keep b hb (fun e => hrb e.symm)) (fun b hv hb => ⟨r, htg b (hoth b hv hb)⟩)
   obtain ⟨hkr, hk'⟩ := hne _ _ _ _ hk
   refine ⟨hk', fun b hb hv => ?_⟩
   obtain ⟨hrk, htk⟩ := hm.row _ _ _ _ hk'
   have hlt := (hrk.lt b hb).2
   have h1 := htk b hb
   have h2 := htg b (hoth b hv hlt)
   rw [h1] at h2; cases h2; exact hkr rfl
/-! cells that are overwritten -/
def updV (l : List Value) (o : Nat) (vs : List Value) : List Value := l.take o ++ vs ++ l.drop (o + vs.length)
theorem updV_len {l : List Value} {o : Nat} {vs : List Value} (h : o + vs.length ≤ l.length) : (updV l o vs).length = l.length := by
 simp [updV]; omega
theorem setCells_heap {b : Nat} {t : TypeId} {fz : Nat × Nat} : ∀ (vs : List Value) (o : Nat) (w : World) (cur : Array Value), w.heap[b]? = some (.cells cur t fz) → o + vs.length ≤ cur.size → ∃ cur', (w.setCells b o vs).heap[b]? = some (.cells cur' t fz) ∧ cur'.toList = updV cur.toList o vs
 | [], o, w, cur, h, _ => ⟨cur, h, by simp [updV]⟩
 | v :: vs, o, w, cur, h, hl => by
  simp only [List.length_cons] at hl
  have h1 : (w.setCell ⟨b, o, none⟩ v).heap[b]? = some (.cells (cur.setIfInBounds o v) t fz) := by
   simp only [World.setCell]
   rw [Array.getElem?_modify, if_pos rfl, h]; rfl
  obtain ⟨cur', h2, h3⟩ := setCells_heap vs (o + 1) _ _ h1 (by simp; omega)
  refine ⟨cur', h2, ?_⟩
  rw [h3]
  simp only [updV, Array.toList_setIfInBounds, List.length_cons]
  apply List.ext_getElem?
  intro i
  simp only [List.getElem?_append, List.getElem?_take, List.getElem?_drop, List.getElem?_set, List.length_append, List.length_take, List.length_set, Array.length_toList, List.length_cons]
  have e1 : min (o + 1) cur.size = o + 1 := by omega
  have e2 : min o cur.size = o := by omega
  simp only [e1, e2]
  by_cases q1 : i < o
  ·simp [q1, show i < o + 1 by omega, show ¬ o = i by omega, show i < o + 1 + vs.length by omega, show i < o + (vs.length + 1) by omega]
  ·by_cases q2 : i = o
   ·subst q2
    simp [show i < i + 1 + vs.length by omega, show i < i + (vs.length + 1) by omega, show i < cur.size by omega]
   ·by_cases q3 : i < o + 1 + vs.length
    ·simp [q1, q3, show ¬ i < o + 1 by omega, show i < o + (vs.length + 1) by omega]
     rw [show i - o = (i - (o + 1)) + 1 by omega, List.getElem?_cons_succ]
    ·simp [q1, q3, show ¬ i < o + 1 by omega, show ¬ i < o + (vs.length + 1) by omega, show ¬ o = o + 1 + vs.length + (i - (o + 1 + vs.length)) by omega]
     congr 1
     omega
theorem setCells_rest (w : World) (b o : Nat) (vs : List Value) : (w.setCells b o vs).os = w.os ∧ (w.setCells b o vs).tape = w.tape ∧ (w.setCells b o vs).output = w.output ∧ (w.setCells b o vs).heap.size = w.heap.size := by
 induction vs generalizing w o with
 | nil => exact ⟨rfl, rfl, rfl, rfl⟩
 | cons v vs ih =>
  obtain ⟨h1, h2, h3, h4⟩ := ih (w.setCell ⟨b, o, none⟩ v) (o + 1)
  exact ⟨h1, h2, h3, h4.trans (by simp [World.setCell])⟩
end Go.Vx
