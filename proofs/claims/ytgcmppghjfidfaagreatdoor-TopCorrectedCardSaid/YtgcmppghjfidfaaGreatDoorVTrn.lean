/-
 Calls that turn an own row by two values.
-/
import Derived.Test.YtgcmppghjfidfaaGreatDoorVIns
namespace Go.Vx
open Go Go.RowKit
set_option linter.unusedSimpArgs false
set_option linter.unusedVariables false
/-- a function of an own row and two values. -/
def TurnD (P : Program) (f : FuncId) (e s : Nat) (els : List (List D)) (x z : Value) (els' : List (List D)) : Prop :=
 Ent P f ∧ ∀ (μ : Mu) (w : World) (base : Nat) (v : Value), base ≤ w.heap.size → RowOk μ base w v e s els →
  Calls P f #[v, x, z] w fun en w' => ∃ v', en = .returned v' ∧ RowOk μ base w' v' e s els' ∧ (∃ a n c, v' = .slice a n c) ∧ Turned w w' v v'
theorem CallI.turnD {C : Cx} {st : St} {K : SV → St → Prop} {f r e s : Nat} {els els' : List (List D)} {x z : Value} (hr : nth st.rw r = some (.own e s els)) (h : TurnD C.P f e s els x z els')
  (hK : K (.row (lenN st.rw)) { st with rw := setN st.rw r .gone ++ [.own e s els'] }) : CallI C f [.row r, .v x, .v z] st K ⟨⟩ := fun g a w ht hm vs hv => by
 rw [nth_eq] at hr
 rw [lenN_eq, setN_eq] at hK
 match vs, hv with
 | [v, y, u], ⟨⟨h1, _, _⟩, h2, h3, _⟩ =>
  simp only [rel] at h2 h3
  subst h1 h2 h3
  obtain ⟨hrow, htg⟩ := hm.row _ _ _ _ hr
  refine ⟨h.1, (h.2 g.μ w C.w0.heap.size _ hm.size hrow).mono ?_⟩
  rintro en w' ⟨v', rfl, hrow', ⟨a', n', c', hv'⟩, hT⟩
  have hne : ∀ k e' s' l, (st.rw.set r .gone)[k]? = some (.own e' s' l) → k ≠ r ∧ st.rw[k]? = some (.own e' s' l) := fun k e' s' l hk => by
   rw [List.getElem?_set] at hk
   split at hk
   ·split at hk <;> cases hk
   ·rename_i h; exact ⟨fun e => h e.symm, hk⟩
  have hoth : ∀ b, ob v' = some b → b < w.heap.size → ob (g.σ r) = some b := fun b hb hlt => (hT.blk b hb).elim (fun h => h) fun h => by omega
  refine ⟨v', rfl, g.addRow v', _, _, hK, ⟨by simp [Gh.addRow, ht.nr], .inl ⟨_, _, _, hv'⟩, by simp [Gh.addRow, ht.nr]⟩, ht.newRow _ _ (by simp) (by simp) (fun k s' e' hk => ?_), ?_, fun _ => ⟨g.le_addRow _, Fr.all⟩⟩
  ·rw [List.getElem?_set] at hk
   split at hk
   ·split at hk <;> cases hk
   ·exact hk
  ·refine hm.newRow ht.nr hT.os hT.tape hT.output hT.size hrow' (by simp) (fun k e' s' l hk => ?_) (rb := ob (g.σ r)) (fun b hb => ⟨r, htg b hb, fun e' s' l hk => (hne _ _ _ _ hk).1 rfl⟩) (fun b hb _ hrb => hT.keep b hb (fun e => hrb e.symm)) (fun b hv hb => ⟨r, htg b (hoth b hv hb)⟩)
   obtain ⟨hkr, hk'⟩ := hne _ _ _ _ hk
   refine ⟨hk', fun b hb hv => ?_⟩
   obtain ⟨hrk, htk⟩ := hm.row _ _ _ _ hk'
   have hlt := (hrk.lt b hb).2
   have h1 := htk b hb
   have h2 := htg b (hoth b hv hlt)
   rw [h1] at h2; cases h2; exact hkr rfl
theorem RdLL.drop {μ : Mu} : ∀ {l : List (List D)} {us : List (List Value)} (n : Nat), RdLL μ l us → RdLL μ (l.drop n) (us.drop n)
 | _, _, 0, h => h
 | [], [], _ + 1, _ => by simp [RdLL]
 | _ :: _, _ :: _, n + 1, h => by simp only [RdLL, List.drop_succ_cons] at h ⊢; exact RdLL.drop n h.2
 | [], _ :: _, _ + 1, h => by simp [RdLL] at h
 | _ :: _, [], _ + 1, h => by simp [RdLL] at h
end Go.Vx
