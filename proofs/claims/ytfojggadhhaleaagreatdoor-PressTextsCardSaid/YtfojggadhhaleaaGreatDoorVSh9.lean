/-
  Chapter 9: what the shape of an argument says of the lists that it holds.
-/
import Derived.Test.YtfojggadhhaleaaGreatDoorVB9
import Derived.Test.YtfojggadhhaleaaGreatDoorVFrame
namespace Go.Proofs.YtfojggadhhaleaaGreatDoor
open Go Go.Vx
set_option linter.unusedSimpArgs false
theorem sh_list {α : Type} {f : α → List D} {Q : α → Prop} : ∀ {els : List (List D)}, (∀ e ∈ els, ∃ a, e = f a ∧ Q a) → ∃ l : List α, els = l.map f ∧ ∀ a ∈ l, Q a
  | [], _ => ⟨[], rfl, by simp⟩
  | e :: els, h => by
    obtain ⟨a, rfl, h1⟩ := h e (by simp)
    obtain ⟨l, rfl, h2⟩ := sh_list fun x hx => h x (List.mem_cons_of_mem _ hx)
    exact ⟨a :: l, rfl, by simpa using ⟨h1, h2⟩⟩
def I64 (n : Int) : Prop := -9223372036854775808 ≤ n ∧ n ≤ 9223372036854775807
theorem wf_i64 {n : Int} (h : (Lit.int .i64 n).wf = true) : I64 n := by
  simp [Lit.wf, IntKind.min, IntKind.max, IntKind.signed, IntKind.bits] at h
  exact h
theorem sh_strs {els : List (List D)} (h : ∀ e ∈ els, HasShL [.str] e) : ∃ l : List ByteArray, els = l.map eS ∧ ∀ s ∈ l, s.size ≤ maxLen :=
  sh_list fun e he => by
    have := h e he
    simp only [HasShL, HasSh] at this
    obtain ⟨_, _, rfl, ⟨s, rfl, hs⟩, rfl⟩ := this
    exact ⟨s, rfl, hs⟩
end Go.Proofs.YtfojggadhhaleaaGreatDoor
