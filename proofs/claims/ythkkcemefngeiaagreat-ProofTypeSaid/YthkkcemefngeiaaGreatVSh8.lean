/-
  Chapter 8: what the shape of an argument says of the lists that it holds.
-/
import Derived.Test.YthkkcemefngeiaaGreatVB8
import Derived.Test.YthkkcemefngeiaaGreatVFrame
namespace Go.Proofs.YthkkcemefngeiaaGreat
open Go Go.Vx
set_option linter.unusedSimpArgs false
theorem sh_list {α : Type} {f : α → List D} {Q : α → Prop} : ∀ {els : List (List D)}, (∀ e ∈ els, ∃ a, e = f a ∧ Q a) → ∃ l : List α, els = l.map f ∧ ∀ a ∈ l, Q a
  | [], _ => ⟨[], rfl, by simp⟩
  | e :: els, h => by
    obtain ⟨a, rfl, h1⟩ := h e (by simp)
    obtain ⟨l, rfl, h2⟩ := sh_list fun x hx => h x (List.mem_cons_of_mem _ hx)
    exact ⟨a :: l, rfl, by simpa using ⟨h1, h2⟩⟩
def I64 (n : Int) : Prop := -9223372036854775808 ≤ n ∧ n ≤ 9223372036854775807
theorem wf_i64 {n : Int} (h : (Lit.int .i64 n).wf = true) : I64 n := by
  simp [Lit.wf, IntKind.min, IntKind.max, IntKind.signed, IntKind.bits] at h
  exact h
theorem sh_ints {els : List (List D)} (h : ∀ e ∈ els, HasShL [.int .i64] e) : ∃ l : List Int, els = l.map eI ∧ ∀ n ∈ l, I64 n :=
  sh_list fun e he => by
    have := h e he
    simp only [HasShL, HasSh] at this
    obtain ⟨_, _, rfl, ⟨n, rfl, hn⟩, rfl⟩ := this
    exact ⟨n, rfl, wf_i64 hn⟩
theorem sh_strs {els : List (List D)} (h : ∀ e ∈ els, HasShL [.str] e) : ∃ l : List ByteArray, els = l.map eS ∧ ∀ s ∈ l, s.size ≤ maxLen :=
  sh_list fun e he => by
    have := h e he
    simp only [HasShL, HasSh] at this
    obtain ⟨_, _, rfl, ⟨s, rfl, hs⟩, rfl⟩ := this
    exact ⟨s, rfl, hs⟩
def MkI (m : Mk) : Prop := I64 m.mark ∧ I64 m.part ∧ I64 m.word ∧ I64 m.was ∧ I64 m.kind
theorem sh_copy {els : List (List D)} (h : ∀ e ∈ els, HasShL [.int .i64, .sl [.str]] e) : ∃ l : List Pt, els = l.map (eP true) ∧ ∀ p ∈ l, I64 p.kind ∧ p.words.length ≤ maxLen :=
  sh_list fun e he => by
    have := h e he
    simp only [HasShL, HasSh] at this
    obtain ⟨_, _, rfl, ⟨a, rfl, ha⟩, _, _, rfl, ⟨els, rfl, hl, hm⟩, rfl⟩ := this
    obtain ⟨l, rfl, h2⟩ := sh_strs hm
    exact ⟨⟨a, l⟩, rfl, wf_i64 ha, by simpa using hl⟩
end Go.Proofs.YthkkcemefngeiaaGreat
