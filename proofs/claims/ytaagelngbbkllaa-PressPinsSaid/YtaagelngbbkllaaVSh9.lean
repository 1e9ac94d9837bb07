/-
  Chapter 9: what the shape of an argument says of the lists that it holds.
-/
import Derived.Test.YtaagelngbbkllaaVB9
import Derived.Test.YtaagelngbbkllaaVFrame
namespace Go.Proofs.Ytaagelngbbkllaa
open Go Go.Vx
set_option linter.unusedSimpArgs false
theorem sh_list {α : Type} {f : α → List D} {Q : α → Prop} : ∀ {els : List (List D)}, (∀ e ∈ els, ∃ a, e = f a ∧ Q a) → ∃ l : List α, els = l.map f ∧ ∀ a ∈ l, Q a
  | [], _ => ⟨[], rfl, by simp⟩
  | e :: els, h => by
    obtain ⟨a, rfl, h1⟩ := h e (by simp)
    obtain ⟨l, rfl, h2⟩ := sh_list fun x hx => h x (List.mem_cons_of_mem _ hx)
    exact ⟨a :: l, rfl, by simpa using ⟨h1, h2⟩⟩
def I64 (n : Int) : Prop := -9223372036854775808 ≤ n ∧ n ≤ 9223372036854775807
theorem wf_i64 {n : Int} (h : (Lit.int .i64 n).wf = true) : I64 n := by
  simp [Lit.wf, IntKind.min, IntKind.max, IntKind.signed, IntKind.bits] at h
  exact h
theorem sh_ints {els : List (List D)} (h : ∀ e ∈ els, HasShL [.int .i64] e) : ∃ l : List Int, els = l.map eI ∧ ∀ n ∈ l, I64 n :=
  sh_list fun e he => by
    have := h e he
    simp only [HasShL, HasSh] at this
    obtain ⟨_, _, rfl, ⟨n, rfl, hn⟩, rfl⟩ := this
    exact ⟨n, rfl, wf_i64 hn⟩
theorem sh_strs {els : List (List D)} (h : ∀ e ∈ els, HasShL [.str] e) : ∃ l : List ByteArray, els = l.map eS ∧ ∀ s ∈ l, s.size ≤ maxLen :=
  sh_list fun e he => by
    have := h e he
    simp only [HasShL, HasSh] at this
    obtain ⟨_, _, rfl, ⟨s, rfl, hs⟩, rfl⟩ := this
    exact ⟨s, rfl, hs⟩
theorem sh_rows {els : List (List D)} (h : ∀ e ∈ els, HasShL [.sl [.int .i64]] e) : ∃ l : List (List Int), els = l.map (eIB true) ∧ ∀ r ∈ l, r.length ≤ maxLen ∧ ∀ n ∈ r, I64 n :=
  sh_list fun e he => by
    have := h e he
    simp only [HasShL, HasSh] at this
    obtain ⟨_, _, rfl, ⟨els, rfl, hl, hm⟩, rfl⟩ := this
    obtain ⟨l, rfl, h2⟩ := sh_ints hm
    exact ⟨l, rfl, by simpa using hl, h2⟩
theorem sh_jobs {els : List (List D)} (h : ∀ e ∈ els, HasShL [.str, .int .i64, .int .i64, .int .i64] e) : ∃ l : List Job, els = l.map eJ ∧ ∀ j ∈ l, I64 j.ready ∧ I64 j.minutes ∧ I64 j.due :=
  sh_list fun e he => by
    have := h e he
    simp only [HasShL, HasSh] at this
    obtain ⟨_, _, rfl, ⟨s, rfl, hs⟩, _, _, rfl, ⟨a, rfl, ha⟩, _, _, rfl, ⟨b, rfl, hb⟩, _, _, rfl, ⟨c, rfl, hc⟩, rfl⟩ := this
    exact ⟨⟨s, a, b, c⟩, rfl, wf_i64 ha, wf_i64 hb, wf_i64 hc⟩
theorem sh_slots {els : List (List D)} (h : ∀ e ∈ els, HasShL [.int .i64, .int .i64, .int .i64] e) : ∃ l : List Slot, els = l.map eT ∧ ∀ j ∈ l, I64 j.job ∧ I64 j.start ∧ I64 j.minutes :=
  sh_list fun e he => by
    have := h e he
    simp only [HasShL, HasSh] at this
    obtain ⟨_, _, rfl, ⟨a, rfl, ha⟩, _, _, rfl, ⟨b, rfl, hb⟩, _, _, rfl, ⟨c, rfl, hc⟩, rfl⟩ := this
    exact ⟨⟨a, b, c⟩, rfl, wf_i64 ha, wf_i64 hb, wf_i64 hc⟩
theorem sh_nodes {els : List (List D)} (h : ∀ e ∈ els, HasShL [.int .i64, .sl [.int .i64]] e) : ∃ l : List Node, els = l.map eN ∧ ∀ j ∈ l, I64 j.kind ∧ j.next.length ≤ maxLen ∧ ∀ n ∈ j.next, I64 n :=
  sh_list fun e he => by
    have := h e he
    simp only [HasShL, HasSh] at this
    obtain ⟨_, _, rfl, ⟨a, rfl, ha⟩, _, _, rfl, ⟨els, rfl, hl, hm⟩, rfl⟩ := this
    obtain ⟨l, rfl, h2⟩ := sh_ints hm
    exact ⟨⟨a, l⟩, rfl, wf_i64 ha, by simpa using hl, h2⟩
theorem sh_pins {els : List (List D)} (h : ∀ e ∈ els, HasShL [.int .i64, .int .i64, .int .i64, .int .i64, .int .i64, .int .i64] e) : ∃ l : List Pn, els = l.map eP ∧ ∀ p ∈ l, I64 p.a ∧ I64 p.b ∧ I64 p.c ∧ I64 p.d ∧ I64 p.e ∧ I64 p.f :=
  sh_list fun e he => by
    have := h e he
    simp only [HasShL, HasSh] at this
    obtain ⟨_, _, rfl, ⟨a, rfl, ha⟩, _, _, rfl, ⟨b, rfl, hb⟩, _, _, rfl, ⟨c, rfl, hc⟩, _, _, rfl, ⟨d, rfl, hd⟩, _, _, rfl, ⟨e', rfl, he'⟩, _, _, rfl, ⟨f, rfl, hf⟩, rfl⟩ := this
    exact ⟨⟨a, b, c, d, e', f⟩, rfl, wf_i64 ha, wf_i64 hb, wf_i64 hc, wf_i64 hd, wf_i64 he', wf_i64 hf⟩
end Go.Proofs.Ytaagelngbbkllaa
