/-
  Chapter 6: what the shape of an argument says of the lists that it holds.
-/
import Derived.Test.YteajjcbinnjgaaaGreatDoorVB6
import Derived.Test.YteajjcbinnjgaaaGreatDoorVFrame
namespace Go.Proofs.YteajjcbinnjgaaaGreatDoor
open Go Go.Vx
set_option linter.unusedSimpArgs false
theorem sh_list {α : Type} {f : α → List D} {Q : α → Prop} : ∀ {els : List (List D)}, (∀ e ∈ els, ∃ a, e = f a ∧ Q a) → ∃ l : List α, els = l.map f ∧ ∀ a ∈ l, Q a
  | [], _ => ⟨[], rfl, by simp⟩
  | e :: els, h => by
    obtain ⟨a, rfl, h1⟩ := h e (by simp)
    obtain ⟨l, rfl, h2⟩ := sh_list fun x hx => h x (List.mem_cons_of_mem _ hx)
    exact ⟨a :: l, rfl, by simpa using ⟨h1, h2⟩⟩
def I64 (n : Int) : Prop := -9223372036854775808 ≤ n ∧ n ≤ 9223372036854775807
theorem wf_i64 {n : Int} (h : (Lit.int .i64 n).wf = true) : I64 n := by
  simp [Lit.wf, IntKind.min, IntKind.max, IntKind.signed, IntKind.bits] at h
  exact h
theorem sh_folds {els : List (List D)} (h : ∀ e ∈ els, HasShL [.int .i64, .int .i64] e) : ∃ l : List Fold, els = l.map eF ∧ ∀ f ∈ l, I64 f.kind ∧ I64 f.count :=
  sh_list fun e he => by
    have := h e he
    simp only [HasShL, HasSh] at this
    obtain ⟨_, _, rfl, ⟨n, rfl, hn⟩, _, _, rfl, ⟨m, rfl, hm⟩, rfl⟩ := this
    exact ⟨⟨n, m⟩, rfl, wf_i64 hn, wf_i64 hm⟩
end Go.Proofs.YteajjcbinnjgaaaGreatDoor
