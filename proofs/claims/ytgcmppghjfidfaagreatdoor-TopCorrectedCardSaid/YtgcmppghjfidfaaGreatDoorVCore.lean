/-
 A symbolic executor for the model's code, over plain data, proved sound: definitions (data and how memory holds it, symbolic values and states, what it means that a state models a frame and a world).
-/
import Derived.WalkKit
import Derived.WalkLawsBesides
import Derived.OrdersHeld
import Derived.TacticsIn
import Derived.OrdersIn
import Derived.RangeFuncNested
import Derived.RangeFuncRecord
import Derived.Sort.LoopGhostIn
namespace Go.Vx
open Go Go.RowKit

/-! ### Immutable memory -/
abbrev Hp := Nat → Option Obj
def Hp.In (μ : Hp) (w : World) : Prop := ∀ b o, μ b = some o → w.heap[b]? = some o
def Hp.cell (μ : Hp) (a : Addr) : Option Value :=
 match μ a.block with
 | some (.cells c _ _) => if a.spot.isSome then none else c[a.off]?
 | _ => none
theorem Hp.In.cell {μ : Hp} {w : World} {a : Addr} {v : Value} (h : μ.In w) (hc : μ.cell a = some v) : w.cell? a = some v := by
 unfold Hp.cell at hc
 unfold World.cell?
 cases hm : μ a.block with
 | none => simp [hm] at hc
 | some o => rw [h _ _ hm]; rw [hm] at hc; exact hc
theorem Hp.cell_block {μ : Hp} {a : Addr} {v : Value} (hc : μ.cell a = some v) : ∃ o, μ a.block = some o := by
 unfold Hp.cell at hc
 cases hm : μ a.block with
 | none => simp [hm] at hc
 | some o => exact ⟨o, rfl⟩
def Hp.Le (μ ν : Hp) : Prop := ∀ b o, μ b = some o → ν b = some o
def Hp.join (μ ν : Hp) : Hp := fun b => (μ b).or (ν b)
theorem Hp.Le.refl (μ : Hp) : μ.Le μ := fun _ _ h => h
theorem Hp.Le.trans {a b c : Hp} (h : a.Le b) (k : b.Le c) : a.Le c := fun x o hx => k x o (h x o hx)
theorem Hp.le_join_left (μ ν : Hp) : μ.Le (μ.join ν) := fun b o h => by simp [Hp.join, h]
theorem Hp.le_join_right {μ ν : Hp} {w : World} (h : μ.In w) (k : ν.In w) : ν.Le (μ.join ν) := fun b o hb => by
 unfold Hp.join
 cases hm : μ b with
 | none => simpa using hb
 | some o' =>
  have e1 := h b o' hm; have e2 := k b o hb; rw [e1] at e2; cases e2; rfl
theorem Hp.In.join {μ ν : Hp} {w : World} (h : μ.In w) (k : ν.In w) : (μ.join ν).In w := fun b o hb => by
 unfold Hp.join at hb
 cases hm : μ b with
 | none => rw [hm] at hb; exact k b o (by simpa using hb)
 | some x => rw [hm] at hb; simp at hb; subst hb; exact h b x hm
theorem Hp.join_some {μ ν : Hp} {b : Nat} {o : Obj} (h : (μ.join ν) b = some o) : μ b = some o ∨ ν b = some o := by
 unfold Hp.join at h
 cases hm : μ b with
 | none => rw [hm] at h; exact .inr (by simpa using h)
 | some x => rw [hm] at h; simp at h; subst h; exact .inl rfl
theorem Hp.Le.cell {μ ν : Hp} (h : μ.Le ν) {a : Addr} {v : Value} (hc : μ.cell a = some v) : ν.cell a = some v := by
 unfold Hp.cell at *
 cases hm : μ a.block with
 | none => simp [hm] at hc
 | some o => rw [h _ _ hm]; rw [hm] at hc; exact hc
abbrev Mu := Bool → Hp
def Mu.Le (μ ν : Mu) : Prop := ∀ f, (μ f).Le (ν f)
theorem Mu.Le.refl (μ : Mu) : μ.Le μ := fun _ => .refl _
theorem Mu.Le.trans {a b c : Mu} (h : a.Le b) (k : b.Le c) : a.Le c := fun f => (h f).trans (k f)

/-! ### Data -/
/-- one cell of data: a plain value, a slice that reads as elements (each of 'sz' cells), a pointer to cells, a function value. The mark tells in which memory it lies: true: in what may be handed back, false: in what is only lent. -/
inductive D where
 | v (x : Value)
 | sl (b : Bool) (sz : Nat) (els : List (List D))
 | pt (b : Bool) (cells : List D)
 | clo (f : Nat) (l : List D)

mutual
def Rd (μ : Mu) : D → Value → Prop
 | .v x, u => u = x ∧ x.oneCell' = true
 | .sl b sz els, u => ∃ A c, u = .slice A els.length c ∧ els.length ≤ c ∧ RdE μ els b A sz 0
 | .pt b cs, u => ∃ a, u = .pointer (some a) ∧ RdC μ cs b a 0
 | .clo f l, u => ∃ cs, u = .func (.func f) #[] cs ∧ RdL μ l cs.toList
/-- cells from an address on. -/
def RdC (μ : Mu) : List D → Bool → Addr → Nat → Prop
 | [], _, _, _ => True
 | d :: l, b, a, j => (∃ x, (μ b).cell (a.add j) = some x ∧ Rd μ d x) ∧ RdC μ l b a (j + 1)
/-- elements, from number 'i' on. -/
def RdE (μ : Mu) : List (List D) → Bool → Option Addr → Nat → Nat → Prop
 | [], _, _, _, _ => True
 | e :: es, b, A, sz, i => (e.length = sz ∧ ∃ ad, A = some ad ∧ RdC μ e b (ad.add (i * sz)) 0) ∧ RdE μ es b A sz (i + 1)
def RdL (μ : Mu) : List D → List Value → Prop
 | [], [] => True
 | d :: l, u :: us => Rd μ d u ∧ RdL μ l us
 | _, _ => False
end
def RdLL (μ : Mu) : List (List D) → List (List Value) → Prop
 | [], [] => True
 | e :: l, u :: us => RdL μ e u ∧ RdLL μ l us
 | _, _ => False

mutual
theorem Rd.mono {μ ν : Mu} (h : μ.Le ν) : ∀ (d : D) (u : Value), Rd μ d u → Rd ν d u
 | .v _, _, k => by simpa [Rd] using k
 | .sl b sz els, u, k => by
  simp only [Rd] at k ⊢
  obtain ⟨A, c, h1, h2, h3⟩ := k
  exact ⟨A, c, h1, h2, RdE.mono h els b A sz 0 h3⟩
 | .pt b cs, u, k => by
  simp only [Rd] at k ⊢
  obtain ⟨a, h1, h2⟩ := k
  exact ⟨a, h1, RdC.mono h cs b a 0 h2⟩
 | .clo f l, u, k => by
  simp only [Rd] at k ⊢
  obtain ⟨cs, h1, h2⟩ := k
  exact ⟨cs, h1, RdL.mono h l _ h2⟩
theorem RdC.mono {μ ν : Mu} (h : μ.Le ν) : ∀ (l : List D) (b : Bool) (a : Addr) (j : Nat), RdC μ l b a j → RdC ν l b a j
 | [], _, _, _, _ => by simp [RdC]
 | d :: l, b, a, j, k => by
  simp only [RdC] at k ⊢
  obtain ⟨⟨x, h1, h2⟩, h3⟩ := k
  exact ⟨⟨x, (h b).cell h1, Rd.mono h d x h2⟩, RdC.mono h l b a (j + 1) h3⟩
theorem RdE.mono {μ ν : Mu} (h : μ.Le ν) : ∀ (l : List (List D)) (b : Bool) (A : Option Addr) (sz i : Nat), RdE μ l b A sz i → RdE ν l b A sz i
 | [], _, _, _, _, _ => by simp [RdE]
 | e :: l, b, A, sz, i, k => by
  simp only [RdE] at k ⊢
  obtain ⟨⟨h0, ad, h1, h2⟩, h3⟩ := k
  exact ⟨⟨h0, ad, h1, RdC.mono h e b _ 0 h2⟩, RdE.mono h l b A sz (i + 1) h3⟩
theorem RdL.mono {μ ν : Mu} (h : μ.Le ν) : ∀ (l : List D) (us : List Value), RdL μ l us → RdL ν l us
 | [], [], _ => by simp [RdL]
 | d :: l, u :: us, k => by
  simp only [RdL] at k ⊢
  exact ⟨Rd.mono h d u k.1, RdL.mono h l us k.2⟩
 | [], _ :: _, k => by simp [RdL] at k
 | _ :: _, [], k => by simp [RdL] at k
end
theorem RdLL.mono {μ ν : Mu} (h : μ.Le ν) : ∀ (l : List (List D)) (us : List (List Value)), RdLL μ l us → RdLL ν l us
 | [], [], _ => by simp [RdLL]
 | d :: l, u :: us, k => by
  simp only [RdLL] at k ⊢
  exact ⟨k.1.mono h d u, RdLL.mono h l us k.2⟩
 | [], _ :: _, k => by simp [RdLL] at k
 | _ :: _, [], k => by simp [RdLL] at k

theorem add_of_add (a : Addr) (i j : Nat) : (a.add i).add j = a.add (i + j) := by
 unfold Addr.add
 by_cases hi : i = 0 <;> by_cases hj : j = 0 <;> simp [hi, hj, Nat.add_assoc]
theorem add_block (a : Addr) (j : Nat) : (a.add j).block = a.block := by
 unfold Addr.add; split <;> rfl
theorem addr0 (a : Addr) : a.add 0 = a := by simp [Addr.add]

theorem Rd.one {μ : Mu} {d : D} {u : Value} (h : Rd μ d u) : u.oneCell' = true := by
 cases d <;> simp only [Rd] at h
 ·rw [h.1]; exact h.2
 ·obtain ⟨A, c, rfl, _⟩ := h; rfl
 ·obtain ⟨a, rfl, _⟩ := h; rfl
 ·obtain ⟨a, rfl, _⟩ := h; rfl
theorem RdL.one {μ : Mu} : ∀ {l : List D} {us : List Value}, RdL μ l us → ∀ u ∈ us, u.oneCell' = true
 | [], [], _, u, hu => by simp at hu
 | d :: l, y :: us, h, u, hu => by
  simp only [RdL] at h
  rcases List.mem_cons.1 hu with rfl | hu
  ·exact h.1.one
  ·exact RdL.one h.2 u hu
 | [], _ :: _, h, _, _ => by simp [RdL] at h
 | _ :: _, [], h, _, _ => by simp [RdL] at h
theorem RdL.len {μ : Mu} : ∀ {l : List D} {us : List Value}, RdL μ l us → us.length = l.length
 | [], [], _ => rfl
 | d :: l, y :: us, h => by simp only [RdL] at h; simp [RdL.len h.2]
 | [], _ :: _, h => by simp [RdL] at h
 | _ :: _, [], h => by simp [RdL] at h
theorem RdLL.len {μ : Mu} : ∀ {l : List (List D)} {us : List (List Value)}, RdLL μ l us → us.length = l.length
 | [], [], _ => rfl
 | d :: l, y :: us, h => by simp only [RdLL] at h; simp [RdLL.len h.2]
 | [], _ :: _, h => by simp [RdLL] at h
 | _ :: _, [], h => by simp [RdLL] at h
theorem RdL.get {μ : Mu} : ∀ {l : List D} {us : List Value}, RdL μ l us → ∀ (i : Nat) (d : D), l[i]? = some d → ∃ u, us[i]? = some u ∧ Rd μ d u
 | [], _, _, i, x, hi => by simp at hi
 | y :: l, u :: us, h, 0, x, hi => by simp only [RdL] at h; simp at hi; subst hi; exact ⟨u, rfl, h.1⟩
 | y :: l, u :: us, h, i + 1, x, hi => by simp only [RdL] at h; simpa using RdL.get h.2 i x (by simpa using hi)
 | _ :: _, [], h, _, _, _ => by simp [RdL] at h
theorem RdLL.get {μ : Mu} : ∀ {l : List (List D)} {us : List (List Value)}, RdLL μ l us → ∀ (i : Nat) (d : List D), l[i]? = some d → ∃ u, us[i]? = some u ∧ RdL μ d u
 | [], _, _, i, x, hi => by simp at hi
 | y :: l, u :: us, h, 0, x, hi => by simp only [RdLL] at h; simp at hi; subst hi; exact ⟨u, rfl, h.1⟩
 | y :: l, u :: us, h, i + 1, x, hi => by simp only [RdLL] at h; simpa using RdLL.get h.2 i x (by simpa using hi)
 | _ :: _, [], h, _, _, _ => by simp [RdLL] at h
theorem RdL.append {μ : Mu} : ∀ {l : List D} {us : List Value} {l' : List D} {us' : List Value}, RdL μ l us → RdL μ l' us' → RdL μ (l ++ l') (us ++ us')
 | [], [], _, _, _, h => h
 | _ :: _, _ :: _, _, _, h, h' => by simp only [RdL, List.cons_append] at h ⊢; exact ⟨h.1, RdL.append h.2 h'⟩
 | [], _ :: _, _, _, h, _ => by simp [RdL] at h
 | _ :: _, [], _, _, h, _ => by simp [RdL] at h
theorem RdLL.append {μ : Mu} : ∀ {l : List (List D)} {us : List (List Value)} {l' : List (List D)} {us' : List (List Value)}, RdLL μ l us → RdLL μ l' us' → RdLL μ (l ++ l') (us ++ us')
 | [], [], _, _, _, h => h
 | _ :: _, _ :: _, _, _, h, h' => by simp only [RdLL, List.cons_append] at h ⊢; exact ⟨h.1, RdLL.append h.2 h'⟩
 | [], _ :: _, _, _, h, _ => by simp [RdLL] at h
 | _ :: _, [], _, _, h, _ => by simp [RdLL] at h
theorem RdL.take {μ : Mu} : ∀ {l : List D} {us : List Value} (n : Nat), RdL μ l us → RdL μ (l.take n) (us.take n)
 | _, _, 0, _ => by simp [RdL]
 | [], [], _ + 1, _ => by simp [RdL]
 | _ :: _, _ :: _, n + 1, h => by simp only [RdL, List.take_succ_cons] at h ⊢; exact ⟨h.1, RdL.take n h.2⟩
 | [], _ :: _, _ + 1, h => by simp [RdL] at h
 | _ :: _, [], _ + 1, h => by simp [RdL] at h
theorem RdL.drop {μ : Mu} : ∀ {l : List D} {us : List Value} (n : Nat), RdL μ l us → RdL μ (l.drop n) (us.drop n)
 | _, _, 0, h => h
 | [], [], _ + 1, _ => by simp [RdL]
 | _ :: _, _ :: _, n + 1, h => by simp only [RdL, List.drop_succ_cons] at h ⊢; exact RdL.drop n h.2
 | [], _ :: _, _ + 1, h => by simp [RdL] at h
 | _ :: _, [], _ + 1, h => by simp [RdL] at h
theorem RdLL.take {μ : Mu} : ∀ {l : List (List D)} {us : List (List Value)} (n : Nat), RdLL μ l us → RdLL μ (l.take n) (us.take n)
 | _, _, 0, _ => by simp [RdLL]
 | [], [], _ + 1, _ => by simp [RdLL]
 | _ :: _, _ :: _, n + 1, h => by simp only [RdLL, List.take_succ_cons] at h ⊢; exact ⟨h.1, RdLL.take n h.2⟩
 | [], _ :: _, _ + 1, h => by simp [RdLL] at h
 | _ :: _, [], _ + 1, h => by simp [RdLL] at h
theorem RdLL.modify {μ : Mu} {f : List D → List D} {f' : List Value → List Value} (hf : ∀ e u, RdL μ e u → RdL μ (f e) (f' u)) : ∀ {l : List (List D)} {us : List (List Value)} (n : Nat), RdLL μ l us → RdLL μ (l.modify n f) (us.modify n f')
 | [], [], _, _ => by simp [RdLL]
 | _ :: _, _ :: _, 0, h => by simp only [RdLL, List.modify_zero_cons] at h ⊢; exact ⟨hf _ _ h.1, h.2⟩
 | _ :: _, _ :: _, n + 1, h => by simp only [RdLL, List.modify_succ_cons] at h ⊢; exact ⟨h.1, RdLL.modify hf n h.2⟩
 | [], _ :: _, _, h => by simp [RdLL] at h
 | _ :: _, [], _, h => by simp [RdLL] at h
theorem RdLL.replicate {μ : Mu} {e : List D} {u : List Value} (h : RdL μ e u) : ∀ n : Nat, RdLL μ (List.replicate n e) (List.replicate n u)
 | 0 => by simp [RdLL]
 | n + 1 => by simp only [List.replicate_succ, RdLL]; exact ⟨h, RdLL.replicate h n⟩

theorem RdC.get {μ : Mu} {b : Bool} {a : Addr} : ∀ {l : List D} {j : Nat}, RdC μ l b a j → ∀ (k : Nat) (d : D), l[k]? = some d → ∃ x, (μ b).cell (a.add (j + k)) = some x ∧ Rd μ d x
 | [], _, _, k, d, h => by simp at h
 | y :: l, j, h, 0, d, hd => by simp only [RdC] at h; simp at hd; subst hd; exact h.1
 | y :: l, j, h, k + 1, d, hd => by
  simp only [RdC] at h
  have := RdC.get h.2 k d (by simpa using hd)
  rwa [show j + 1 + k = j + (k + 1) by omega] at this
theorem RdC.drop {μ : Mu} {b : Bool} {a : Addr} : ∀ {l : List D} {j : Nat} (n : Nat), RdC μ l b a j → RdC μ (l.drop n) b a (j + n)
 | _, _, 0, h => h
 | [], _, _ + 1, _ => by simp [RdC]
 | _ :: _, j, n + 1, h => by
  simp only [RdC, List.drop_succ_cons] at h ⊢
  have := RdC.drop n h.2
  rwa [show j + 1 + n = j + (n + 1) by omega] at this
theorem RdC.shift {μ : Mu} {b : Bool} {a : Addr} {n : Nat} : ∀ {l : List D} {j : Nat}, RdC μ l b a (j + n) → RdC μ l b (a.add n) j
 | [], _, _ => by simp [RdC]
 | _ :: _, j, h => by
  simp only [RdC] at h ⊢
  refine ⟨by rw [add_of_add, Nat.add_comm n j]; exact h.1, RdC.shift ?_⟩
  rw [show j + 1 + n = j + n + 1 by omega]; exact h.2
theorem RdC.vals {μ : Mu} {b : Bool} {a : Addr} : ∀ {l : List D} {j : Nat}, RdC μ l b a j → ∃ us, RdL μ l us ∧ ∀ k u, us[k]? = some u → (μ b).cell (a.add (j + k)) = some u
 | [], _, _ => ⟨[], by simp [RdL], by simp⟩
 | y :: l, j, h => by
  simp only [RdC] at h
  obtain ⟨⟨x, h1, h2⟩, h3⟩ := h
  obtain ⟨us, k1, k2⟩ := RdC.vals h3
  refine ⟨x :: us, by simp only [RdL]; exact ⟨h2, k1⟩, fun k u hk => ?_⟩
  cases k with
  | zero => simp at hk; subst hk; exact h1
  | succ k => have := k2 k u (by simpa using hk); rwa [show j + 1 + k = j + (k + 1) by omega] at this
theorem RdC.of {μ : Mu} {b : Bool} {a : Addr} : ∀ {l : List D} {us : List Value} {j : Nat}, RdL μ l us → (∀ k u, us[k]? = some u → (μ b).cell (a.add (j + k)) = some u) → RdC μ l b a j
 | [], [], _, _, _ => by simp [RdC]
 | d :: l, u :: us, j, h, hc => by
  simp only [RdL] at h
  simp only [RdC]
  refine ⟨⟨u, by simpa using hc 0 u rfl, h.1⟩, RdC.of h.2 fun k x hk => ?_⟩
  have := hc (k + 1) x (by simpa using hk)
  rwa [show j + (k + 1) = j + 1 + k by omega] at this
 | [], _ :: _, _, h, _ => by simp [RdL] at h
 | _ :: _, [], _, h, _ => by simp [RdL] at h

theorem RdE.get {μ : Mu} {b : Bool} {A : Option Addr} {sz : Nat} : ∀ {l : List (List D)} {i : Nat}, RdE μ l b A sz i → ∀ (k : Nat) (e : List D), l[k]? = some e → e.length = sz ∧ ∃ ad, A = some ad ∧ RdC μ e b (ad.add ((i + k) * sz)) 0
 | [], _, _, k, d, h => by simp at h
 | y :: l, i, h, 0, d, hd => by simp only [RdE] at h; simp at hd; subst hd; exact h.1
 | y :: l, i, h, k + 1, d, hd => by
  simp only [RdE] at h
  have := RdE.get h.2 k d (by simpa using hd)
  rwa [show i + 1 + k = i + (k + 1) by omega] at this
theorem RdE.drop {μ : Mu} {b : Bool} {A : Option Addr} {sz : Nat} : ∀ {l : List (List D)} {i : Nat} (n : Nat), RdE μ l b A sz i → RdE μ (l.drop n) b A sz (i + n)
 | _, _, 0, h => h
 | [], _, _ + 1, _ => by simp [RdE]
 | _ :: _, i, n + 1, h => by
  simp only [RdE, List.drop_succ_cons] at h ⊢
  have := RdE.drop n h.2
  rwa [show i + 1 + n = i + (n + 1) by omega] at this
theorem RdE.take {μ : Mu} {b : Bool} {A : Option Addr} {sz : Nat} : ∀ {l : List (List D)} {i : Nat} (n : Nat), RdE μ l b A sz i → RdE μ (l.take n) b A sz i
 | _, _, 0, _ => by simp [RdE]
 | [], _, _ + 1, _ => by simp [RdE]
 | _ :: _, i, n + 1, h => by
  simp only [RdE, List.take_succ_cons] at h ⊢
  exact ⟨h.1, RdE.take n h.2⟩
theorem RdE.shift {μ : Mu} {b : Bool} {ad : Addr} {sz n : Nat} : ∀ {l : List (List D)} {i : Nat}, RdE μ l b (some ad) sz (i + n) → RdE μ l b (some (ad.add (n * sz))) sz i
 | [], _, _ => by simp [RdE]
 | _ :: _, i, h => by
  simp only [RdE] at h ⊢
  obtain ⟨⟨h0, ad', h1, h2⟩, h3⟩ := h
  cases h1
  refine ⟨⟨h0, _, rfl, ?_⟩, RdE.shift ?_⟩
  ·rw [add_of_add, ← Nat.add_mul, Nat.add_comm n i]; exact h2
  ·rw [show i + 1 + n = i + n + 1 by omega]; exact h3
theorem RdE.vals {μ : Mu} {b : Bool} {A : Option Addr} {sz : Nat} : ∀ {l : List (List D)} {i : Nat}, RdE μ l b A sz i → ∃ vss, RdLL μ l vss ∧ (∀ e ∈ vss, e.length = sz) ∧ (l = [] ∨ ∃ ad, A = some ad ∧ ∀ j x, vss.flatten[j]? = some x → (μ b).cell (ad.add (i * sz + j)) = some x)
 | [], _, _ => ⟨[], by simp [RdLL], by simp, .inl rfl⟩
 | e :: l, i, h => by
  simp only [RdE] at h
  obtain ⟨⟨h0, ad, h1, h2⟩, h3⟩ := h
  obtain ⟨us, k1, k2⟩ := h2.vals
  obtain ⟨vss, j1, j2, j3⟩ := RdE.vals h3
  have hl : us.length = sz := by rw [k1.len, h0]
  refine ⟨us :: vss, by simp only [RdLL]; exact ⟨k1, j1⟩, ?_, .inr ⟨ad, h1, fun j x hj => ?_⟩⟩
  ·intro e' he'
   rcases List.mem_cons.1 he' with rfl | he'
   ·exact hl
   ·exact j2 e' he'
  ·simp only [List.flatten_cons] at hj
   by_cases hlt : j < us.length
   ·rw [List.getElem?_append_left hlt] at hj
    have := k2 j x hj
    rwa [Nat.zero_add, add_of_add] at this
   ·rw [List.getElem?_append_right (by omega)] at hj
    rcases j3 with rfl | ⟨ad', hA, hc⟩
    ·cases vss with
     | nil => simp at hj
     | cons _ _ => simp [RdLL] at j1
    ·rw [h1] at hA; cases hA
     have := hc _ x hj
     rwa [Nat.succ_mul, show i * sz + sz + (j - us.length) = i * sz + j by omega] at this
theorem RdE.of {μ : Mu} {b : Bool} {A : Option Addr} {sz : Nat} (hs : 0 < sz) : ∀ {l : List (List D)} {vss : List (List Value)} {i : Nat}, RdLL μ l vss → (∀ e ∈ vss, e.length = sz) → (∀ j x, vss.flatten[j]? = some x → ∃ ad, A = some ad ∧ (μ b).cell (ad.add (i * sz + j)) = some x) → RdE μ l b A sz i
 | [], [], _, _, _, _ => by simp [RdE]
 | e :: l, us :: vss, i, h, hl, hc => by
  simp only [RdLL] at h
  have hul := hl us (by simp)
  simp only [RdE]
  have h0 : us[0]? = some us[0] := List.getElem?_eq_getElem (by omega)
  obtain ⟨ad, hA, _⟩ := hc 0 us[0] (by simp only [List.flatten_cons]; rw [List.getElem?_append_left (by omega)]; exact h0)
  refine ⟨⟨by rw [← h.1.len, hul], ad, hA, RdC.of h.1 fun k u hk => ?_⟩, RdE.of hs h.2 (fun e he => hl e (by simp [he])) fun j x hj => ?_⟩
  ·have hk' : k < us.length := (List.getElem?_eq_some_iff.1 hk).1
   obtain ⟨ad', hA', hcell⟩ := hc k u (by simp only [List.flatten_cons]; rw [List.getElem?_append_left hk']; exact hk)
   rw [hA] at hA'; cases hA'
   rw [add_of_add, Nat.zero_add]; exact hcell
  ·obtain ⟨ad', hA', hcell⟩ := hc (us.length + j) x (by simp only [List.flatten_cons]; rw [List.getElem?_append_right (by omega), Nat.add_sub_cancel_left]; exact hj)
   refine ⟨ad', hA', ?_⟩
   rwa [Nat.succ_mul, show i * sz + sz + j = i * sz + (us.length + j) by omega]
 | [], _ :: _, _, h, _, _ => by simp [RdLL] at h
 | _ :: _, [], _, h, _, _ => by simp [RdLL] at h

/-! ### Types -/
inductive Kd where
 | scalar
 | int (k : IntKind)
 | str
 | st (fs : List (Nat × Nat))
 | arr (n : Nat) (e : TypeId) (es : Nat)
 | sl (e : TypeId) (es eb : Nat) (ez : List Value)
 | mp (kk : Option IntKind) (z : Value)
 | ifc

structure TI where
 size : Nat
 zero : List Value
 kd : Kd
 /-- 'n': a struct of n ints that '==' compares; 0: not asked. -/
 eqn : Nat

def Kd.isI : Kd → Bool
 | .ifc => true
 | _ => false
def Kd.agg : Kd → Bool
 | .st _ => true
 | .arr .. => true
 | _ => false

abbrev Tab := List (Nat × TI)
def tlook : Tab → Nat → Option TI
 | [], _ => none
 | (t, x) :: l, u => if t = u then some x else tlook l u

def KdOk (P : Program) (t : TypeId) : Kd → Prop
 | .scalar => ∃ d, P.underlying t = some d ∧ (∀ fs, d ≠ .struct fs) ∧ (∀ n e, d ≠ .array n e) ∧ (∀ ms, d ≠ .interface ms)
 | .int k => P.underlying t = some (.int k)
 | .str => P.underlying t = some .string
 | .st fs => ∃ fl : Array Field, P.underlying t = some (.struct fl) ∧ fl.size = fs.length ∧ ∀ (f o s : Nat), fs[f]? = some (o, s) → ∃ fd : Field, fl[f]? = some fd ∧ fd.offset = o ∧ ∃ j, P.info? fd.type = some j ∧ j.size = s ∧ s ≠ 0
 | .arr n e es => P.underlying t = some (.array n e) ∧ ∃ j, P.info? e = some j ∧ j.size = es
 | .sl e es eb ez => P.underlying t = some (.slice e) ∧ ∃ i, P.info? e = some i ∧ i.size = es ∧ i.bytes = eb ∧ 0 < es ∧ 0 < eb ∧ (∀ u ∈ ez, u.oneCell' = true) ∧ ∃ z, i.zero = some z ∧ z.cells.toList = ez ∧ ez.length = es
 | .ifc => ∃ ms, P.underlying t = some (.interface ms)
 | .mp kk z => ∃ k e, P.underlying t = some (.map k e) ∧ P.underlying k = some (match kk with | some i => .int i | none => .string) ∧ ∃ j, P.info? e = some j ∧ j.zero = some z

/-- '==' and '!=' on a struct of so many ints. -/
def EqOk (P : Program) (t : TypeId) (n : Nat) : Prop :=
 ∀ (as bs : List Int), as.length = n → bs.length = n → ∀ (w : World) (x y : Operand),
  ((do eqGuard .eql t x y (.agg (as.map (Value.int .i64)).toArray) (.agg (bs.map (Value.int .i64)).toArray); binOp .eql t (.agg (as.map (Value.int .i64)).toArray) (.agg (bs.map (Value.int .i64)).toArray)) : Sem Value).run P w = .ok (.bool (decide (as = bs))) w ∧
  ((do eqGuard .neq t x y (.agg (as.map (Value.int .i64)).toArray) (.agg (bs.map (Value.int .i64)).toArray); binOp .neq t (.agg (as.map (Value.int .i64)).toArray) (.agg (bs.map (Value.int .i64)).toArray)) : Sem Value).run P w = .ok (.bool (decide (as ≠ bs))) w

/-- what a struct that '==' compares is made of: ints and strings. -/
inductive Sc where
 | i (n : Int)
 | s (x : ByteArray)
 deriving DecidableEq
def Sc.v : Sc → Value
 | .i n => .int .i64 n
 | .s x => .string x
/-- the kinds of cells by the binary digits of a code, the first one last: 1 an int, 0 a string; ahead of all a 1. -/
def shOk : Nat → List Sc → Bool
 | c, [] => decide (c = 1)
 | c, .i _ :: l => decide (c % 2 = 1) && decide (2 ≤ c) && shOk (c / 2) l
 | c, .s _ :: l => decide (c % 2 = 0) && decide (2 ≤ c) && shOk (c / 2) l
def EqS (P : Program) (t : TypeId) (c : Nat) : Prop :=
 ∀ (as bs : List Sc), shOk c as = true → shOk c bs = true → ∀ (w : World) (x y : Operand),
  ((do eqGuard .eql t x y (.agg (as.map Sc.v).toArray) (.agg (bs.map Sc.v).toArray); binOp .eql t (.agg (as.map Sc.v).toArray) (.agg (bs.map Sc.v).toArray)) : Sem Value).run P w = .ok (.bool (decide (as = bs))) w ∧
  ((do eqGuard .neq t x y (.agg (as.map Sc.v).toArray) (.agg (bs.map Sc.v).toArray); binOp .neq t (.agg (as.map Sc.v).toArray) (.agg (bs.map Sc.v).toArray)) : Sem Value).run P w = .ok (.bool (decide (as ≠ bs))) w
/-- codes of mixed structs lie above a million. -/
def EqOk' (P : Program) (t : TypeId) (n : Nat) : Prop := (n < 1000000 → EqOk P t n) ∧ (¬ n < 1000000 → EqS P t (n - 1000000))
theorem EqOk.up {P : Program} {t : TypeId} {n : Nat} (h : EqOk P t n) (hn : n < 1000000 := by decide) : EqOk' P t n := ⟨fun _ => h, fun h => absurd hn h⟩
theorem EqS.up {P : Program} {t : TypeId} {c : Nat} (h : EqS P t c) : EqOk' P t (c + 1000000) := ⟨fun h => by omega, fun _ => by rw [Nat.add_sub_cancel]; exact h⟩

/-- a struct of ints and strings alone. -/
def ScOk (P : Program) (t : TypeId) : Prop := ∀ fl : Array Field, P.underlying t = some (.struct fl) → ∀ (f : Nat) (fd : Field), fl[f]? = some fd → (P.underlying fd.type = some (.int .i64) ∨ P.underlying fd.type = some .string)
def TIok (P : Program) (t : TypeId) (ti : TI) : Prop :=
 (∃ i, P.info? t = some i ∧ i.size = ti.size ∧ ∃ z, i.zero = some z ∧ z.cells.toList = ti.zero) ∧ KdOk P t ti.kd ∧ (ti.eqn ≠ 0 → EqOk' P t ti.eqn) ∧ (ti.kd.agg = false → ti.size = 1) ∧ (∀ fs, ti.kd = .st fs → ti.eqn ≠ 0 → ScOk P t)

def TabOk (P : Program) (T : Tab) : Prop := ∀ t ti, tlook T t = some ti → TIok P t ti
theorem TabOk.nil {P : Program} : TabOk P [] := fun _ _ h => by simp [tlook] at h
theorem TabOk.cons {P : Program} {t : Nat} {ti : TI} {T : Tab} (h : TIok P t ti) (hT : TabOk P T) : TabOk P ((t, ti) :: T) := fun u x hx => by
 unfold tlook at hx
 split at hx
 ·rename_i e; cases hx; subst e; exact h
 ·exact hT u x hx

/-! ### Symbolic values -/
inductive SV where
 | any
 | v (x : Value)
 | sl (b : Bool) (sz : Nat) (els : List (List D))
 | pt (b : Bool) (cells : List D)
 | box (k off : Nat)
 | row (k : Nat)
 | relt (k : Nat) (i : Int) (size off : Nat)
 | agg (l : List SV)
 | tup (l : List SV)
 | clo (f : Nat) (l : List SV)
 /-- of no value: the next own row that goes into an own row stays its own -/
 | arm
 /-- of no value: row k is this value -/
 | ali (k : Nat) (u : Value)
 /-- of no value: what package variable i holds -/
 | glo (i : Nat) (cs : List D)
 /-- of no value: box k lies at block b -/
 | bxa (k b : Nat)
 /-- a slice without spare places -/
 | cap (b : Bool) (sz : Nat) (els : List (List D))

inductive Tag where
 | imm
 | box (k : Nat)
 | row (k : Nat)

structure Gh where
 nb : Nat
 nr : Nat
 ρ : Nat → Nat
 σ : Nat → Value
 tag : Nat → Tag
 μ : Mu
 /-- what is another's, since the last round of the loop that is served (an iterator's), or from the start: it lies as it lay in 'wy'; of it what that other one may change. -/
 fo : Nat → Bool
 wy : World
 mp : Nat → Bool

/-- the block that a value of an own row names. -/
def ob : Value → Option Nat
 | .map r => r
 | v => v.ownBlock
/-- a slice, or a map that is made. -/
def RefV (u : Value) : Prop := (∃ a n c, u = .slice a n c) ∨ ∃ b, u = .map (some b)
mutual
def rel (g : Gh) : SV → Value → Prop
 | .any, _ => True
 | .v x, u => u = x
 | .sl b sz els, u => Rd g.μ (.sl b sz els) u
 | .pt b cs, u => Rd g.μ (.pt b cs) u
 | .box k off, u => u = .pointer (some ⟨g.ρ k, off, none⟩) ∧ k < g.nb
 | .row k, u => u = g.σ k ∧ RefV u ∧ k < g.nr
 | .relt k i size off, u => ∃ b, ob (g.σ k) = some b ∧ u = .pointer (some ⟨b, i.toNat * size + off, none⟩) ∧ k < g.nr ∧ 0 < size
 | .agg l, u => ∃ cs, u = .agg cs ∧ rels g l cs.toList
 | .tup l, u => ∃ cs, u = .tuple cs ∧ rels g l cs.toList
 | .clo f l, u => ∃ cs, u = .func (.func f) #[] cs ∧ rels g l cs.toList
 | .arm, _ => True
 | .ali k u, _ => u = g.σ k ∧ RefV u ∧ k < g.nr
 | .bxa k b, _ => b = g.ρ k ∧ k < g.nb
 | .glo i cs, _ => RdC g.μ cs false ⟨i, 0, none⟩ 0
 | .cap b sz els, u => Rd g.μ (.sl b sz els) u ∧ ∃ a n, u = .slice a n n
def rels (g : Gh) : List SV → List Value → Prop
 | [], [] => True
 | x :: xs, u :: us => rel g x u ∧ rels g xs us
 | _, _ => False
end

structure Bx where
 ty : TypeId
 cells : List SV
inductive Rw where
 | gone
 | own (ety : TypeId) (size : Nat) (els : List (List D))
 | frz (size : Nat) (els : List (List D))
 /-- no memory: what an iterator has handed out, and whether it was told to stop -/
 | gh (stop : Bool) (ys : List (List SV))

structure St where
 tm : List (Nat × SV)
 bx : List (Option Bx)
 rw : List Rw

def look : List (Nat × SV) → Nat → SV
 | [], _ => .any
 | (t, x) :: l, u => if t = u then x else look l u

/-! lists by literal numbers -/
def nth {α : Type} : List α → Nat → Option α
 | [], _ => none
 | x :: _, 0 => some x
 | _ :: l, n + 1 => nth l n
theorem nth_eq {α : Type} : ∀ (l : List α) (n : Nat), nth l n = l[n]?
 | [], _ => rfl
 | _ :: _, 0 => rfl
 | _ :: l, n + 1 => by simpa [nth] using nth_eq l n

def rwN (k : Nat) : Option Rw → SV
 | some (.frz sz els) => .sl true sz els
 | _ => .row k
def norm (rw : List Rw) : SV → SV
 | .row k => rwN k (nth rw k)
 | x => x

def ofV : Value → SV
 | .agg cs => .agg (cs.toList.map SV.v)
 | v => .v v
mutual
def ofD : D → SV
 | .v x => .v x
 | .sl b sz els => .sl b sz els
 | .pt b cs => .pt b cs
 | .clo f l => .clo f (ofDL l)
def ofDL : List D → List SV
 | [] => []
 | d :: l => ofD d :: ofDL l
end

def evG (i : Nat) : SV → SV
 | .glo j cs => if j = i then .pt false cs else .v (.pointer (some ⟨i, 0, none⟩))
 | _ => .v (.pointer (some ⟨i, 0, none⟩))
def St.ev (st : St) : Operand → SV
 | .tmp t => norm st.rw (look st.tm t)
 | .const v => ofV v
 | .global g => evG g (look st.tm 2000000)
 | .func f => .clo f []

def St.put (st : St) (d : Option Nat) (x : SV) : St :=
 match d with
 | some t => { st with tm := (t, x) :: st.tm }
 | none => st

/-! ### What a state says -/
/-- the loop that is served: its record, what its body makes of the world -/
structure Yd where
 yl : Nat
 J : Bool → List (List SV) → (Nat → Bool) → (Nat → Bool) → World → Prop
/-- where code is carried out: in a round of a loop (its record), with loops whose marks the function takes up, with memory that stays as it is, inside of records -/
structure Ho where
 yd : Yd
 ro : Option Nat
 mks : Bool
 fr : Option ((Nat → Bool) × World)
 lp : Nat → Bool
 sz : Nat
def ho0 : Ho := ⟨⟨0, fun _ _ _ _ _ => False⟩, none, true, none, fun _ => false, 0⟩
/-- a callee's. -/
def Ho.out (h : Ho) (fr : (Nat → Bool) × World) (lp : Nat → Bool) : Ho := { h with ro := none, mks := false, fr := some fr, lp := lp }
/-- boxes and rows that stay what they are (a caller's, while its callee is carried out in place). -/
structure Pin where
 nb : Nat
 nr : Nat
 ρ : Nat → Nat
 σ : Nat → Value
 μ : Mu
 /-- blocks that none may take: what a caller holds besides what it hands over -/
 np : Nat → Bool
 ho : Ho
def mu0 : Mu := fun _ _ => none
def pin0 : Pin := ⟨0, 0, fun _ => 0, fun _ => .nilFunc, mu0, fun _ => false, ho0⟩
theorem Mu.le0 (μ : Mu) : mu0.Le μ := fun _ _ _ h => by simp [mu0] at h
structure Cx where
 P : Program
 w0 : World
 N : Nat
 /-- memory that the result may share -/
 kp : Hp
 pin : Pin
 /-- within a region that draws its order -/
 dr : Bool
structure PinOk (p : Pin) (g : Gh) : Prop where
 nb : p.nb ≤ g.nb
 nr : p.nr ≤ g.nr
 ρ : ∀ k, k < p.nb → g.ρ k = p.ρ k
 σ : ∀ k, k < p.nr → g.σ k = p.σ k
 μ : p.μ.Le g.μ

def entD (e : MapEntry) : List D := [.v e.key, .v e.val]
/-- an own map: its entries, key and value, in the order in which the map holds them. -/
def RdW (μ : Mu) : D → Value → Prop
 | .v x, u => u = x
 | d, u => Rd μ d u
/-- a map's entries: key and value. -/
def RdM (μ : Mu) : List (List D) → List MapEntry → Prop
 | [], [] => True
 | [.v k, d] :: l, e :: es => (e.key = k ∧ RdW μ d e.val) ∧ RdM μ l es
 | _, _ => False
theorem RdW.imp {μ ν : Mu} (h : ∀ d u, Rd μ d u → Rd ν d u) : ∀ {d : D} {u : Value}, RdW μ d u → RdW ν d u
 | .v _, _, k => k
 | .sl .., _, k => h _ _ k
 | .pt .., _, k => h _ _ k
 | .clo .., _, k => h _ _ k
theorem RdM.imp {μ ν : Mu} (h : ∀ d u, Rd μ d u → Rd ν d u) : ∀ (els : List (List D)) (es : List MapEntry), RdM μ els es → RdM ν els es
 | [], [], _ => trivial
 | [.v k, d] :: l, e :: es, q => ⟨⟨q.1.1, RdW.imp h q.1.2⟩, RdM.imp h l es q.2⟩
 | [], _ :: _, q => by simp [RdM] at q
 | [] :: _, _, q => by simp [RdM] at q
 | [_] :: _, _, q => by simp [RdM] at q
 | (.sl .. :: _ :: _) :: _, _, q => by simp [RdM] at q
 | (.pt .. :: _ :: _) :: _, _, q => by simp [RdM] at q
 | (.clo .. :: _ :: _) :: _, _, q => by simp [RdM] at q
 | (_ :: _ :: _ :: _) :: _, _, q => by simp [RdM] at q
 | [.v _, _] :: _, [], q => by simp [RdM] at q
theorem RdM.of (μ : Mu) : ∀ (es : List MapEntry), RdM μ (es.map entD) es
 | [] => trivial
 | _ :: es => ⟨⟨rfl, rfl⟩, RdM.of μ es⟩
def MapOk (μ : Mu) (base : Nat) (w : World) (v : Value) (els : List (List D)) : Prop :=
 ∃ b ents clk, v = .map (some b) ∧ base ≤ b ∧ w.heap[b]? = some (.map ents clk) ∧ RdM μ els ents.toList
theorem MapOk.imp {μ ν : Mu} (h : ∀ d u, Rd μ d u → Rd ν d u) {base : Nat} {w : World} {v : Value} {els : List (List D)} (k : MapOk μ base w v els) : MapOk ν base w v els := by
 obtain ⟨b, ents, clk, h1, h2, h3, h4⟩ := k
 exact ⟨b, ents, clk, h1, h2, h3, RdM.imp h _ _ h4⟩
/-- an own table of elements; or, with elements of size 0, an own map. -/
def RowOk (μ : Mu) (base : Nat) (w : World) (v : Value) (ety size : Nat) (els : List (List D)) : Prop :=
 (0 < size ∧ ∃ vss : List (List Value), w.ownsRow base ety size v vss.length vss.flatten ∧ (∀ e ∈ vss, e.length = size) ∧ RdLL μ els vss) ∨ (size = 0 ∧ MapOk μ base w v els)
theorem RowOk.tab {μ : Mu} {base : Nat} {w : World} {v : Value} {ety size : Nat} {els : List (List D)} (h : RowOk μ base w v ety size els) (h0 : 0 < size) : 0 < size ∧ ∃ vss : List (List Value), w.ownsRow base ety size v vss.length vss.flatten ∧ (∀ e ∈ vss, e.length = size) ∧ RdLL μ els vss := by
 rcases h with h | ⟨h, _⟩
 ·exact h
 ·omega
theorem ob_own {w : World} {base : Nat} {e : TypeId} {s n : Nat} {v : Value} {l : List Value} (h : w.ownsRow base e s v n l) : v.ownBlock = ob v := by
 rcases h.2 with ⟨hv, _⟩ | ⟨gg, cap, cur, hv, _⟩ <;> rw [hv] <;> rfl
theorem RowOk.map {μ : Mu} {base : Nat} {w : World} {v : Value} {ety : Nat} {els : List (List D)} (h : RowOk μ base w v ety 0 els) : MapOk μ base w v els := by
 rcases h with ⟨h, _⟩ | ⟨_, h⟩
 ·omega
 ·exact h

/-- what lies as it lay: (true) from a fixed world on; (false) since the last round of the loop that is served. -/
def frS (C : Cx) (fo : Nat → Bool) : Bool → Nat → Bool
 | true, b => match C.pin.ho.fr with
  | none => decide (b < C.w0.heap.size)
  | some x => x.1 b
 | false, b => fo b
def frW (C : Cx) (wy : World) : Bool → World
 | true => match C.pin.ho.fr with
  | none => C.w0
  | some x => x.2
 | false => wy
structure Hse (C : Cx) (g : Gh) (st : St) (w : World) : Prop where
 lt : ∀ q b, frS C g.fo q b = true → b < w.heap.size
 mp : ∀ b, g.mp b = true → g.fo b = true ∧ ∀ f, g.μ f b = none
 nf : ∀ b, frS C g.fo true b = true → g.mp b = false
 lp : ∀ b, C.pin.ho.lp b = true → frS C g.fo true b = true ∧ g.fo b = false ∧ ∀ f o, g.μ f b = some o → o.isCells = false
 jj : ∀ (k : Nat) (s : Bool) (ys : List (List SV)), st.rw[k]? = some (Rw.gh s ys) → C.pin.ho.yd.J s ys g.fo g.mp g.wy
 ro : ∀ l, C.pin.ho.ro = some l → frS C g.fo true l = true ∧ ∃ r, (frW C g.wy true).heap[l]? = some (.loop r)
 sz : C.pin.ho.sz ≤ w.heap.size
 wy : g.wy.heap.size ≤ w.heap.size ∧ g.wy.os = C.w0.os ∧ g.wy.tape = C.w0.tape ∧ g.wy.output = C.w0.output
theorem Hse.next {C : Cx} {g g' : Gh} {st st' : St} {w w' : World} (h : Hse C g st w) (h1 : g'.fo = g.fo) (h2 : g'.wy = g.wy) (h3 : g'.mp = g.mp) (hs : w.heap.size ≤ w'.heap.size)
  (hm : ∀ f b o, g'.μ f b = some o → g.μ f b = some o ∨ (g.mp b = false ∧ C.pin.ho.lp b = false)) (hr : ∀ (k : Nat) (s : Bool) (ys : List (List SV)), st'.rw[k]? = some (Rw.gh s ys) → ∃ k' : Nat, st.rw[k']? = some (Rw.gh s ys)) : Hse C g' st' w' where
 lt := fun q b hb => Nat.lt_of_lt_of_le (h.lt q b (by rw [h1] at hb; exact hb)) hs
 mp := fun b hb => by
  rw [h3] at hb; rw [h1]
  refine ⟨(h.mp b hb).1, fun f => ?_⟩
  cases hx : g'.μ f b with
  | none => rfl
  | some o =>
   rcases hm f b o hx with h4 | h4
   ·rw [(h.mp b hb).2 f] at h4; cases h4
   ·rw [h4.1] at hb; cases hb
 nf := fun b hb => by rw [h3]; exact h.nf b (by rw [h1] at hb; exact hb)
 lp := fun b hb => by
  obtain ⟨p1, p2, p3⟩ := h.lp b hb
  refine ⟨p1, by rw [h1]; exact p2, fun f o ho => ?_⟩
  rcases hm f b o ho with h5 | h5
  ·exact p3 f o h5
  ·rw [h5.2] at hb; cases hb
 jj := fun k s ys hk => by
  obtain ⟨k', hk'⟩ := hr k s ys hk
  rw [h1, h2, h3]; exact h.jj k' s ys hk'
 ro := h.ro
 sz := Nat.le_trans h.sz hs
 wy := by rw [h2]; exact ⟨Nat.le_trans h.wy.1 hs, h.wy.2⟩
/-- the same ghost, rows as they were. -/
theorem Hse.same {C : Cx} {g : Gh} {st st' : St} {w w' : World} (h : Hse C g st w) (hs : w.heap.size ≤ w'.heap.size) (hr : st'.rw = st.rw) : Hse C g st' w' :=
 h.next rfl rfl rfl hs (fun _ _ _ ho => .inl ho) fun k s ys hk => ⟨k, by rw [← hr]; exact hk⟩

/-- a loop's mark among the deferred calls. -/
def markOf (D : Nat) : Deferred := { target := .collected D, args := #[] }
def DefOk (C : Cx) (g : Gh) (l : List Deferred) : Prop := ∃ ds : List Nat, l = ds.map markOf ∧ (∀ D ∈ ds, g.μ false D = some (.deferred (some [])) ∧ C.w0.heap.size ≤ D ∧ g.fo D = false) ∧ ds.Nodup ∧ (C.pin.ho.mks = false → ds = [])
theorem DefOk.nil (C : Cx) (g : Gh) : DefOk C g [] := ⟨[], rfl, by simp, .nil, fun _ => rfl⟩
theorem DefOk.mono {C : Cx} {g g' : Gh} {l : List Deferred} (h : DefOk C g l) (hm : (g.μ false).Le (g'.μ false)) (hf : g'.fo = g.fo := by rfl) : DefOk C g' l := by
 obtain ⟨ds, h1, h2, h3, h4⟩ := h
 exact ⟨ds, h1, fun D hD => ⟨hm _ _ (h2 D hD).1, (h2 D hD).2.1, by rw [hf]; exact (h2 D hD).2.2⟩, h3, h4⟩
structure TmOk (C : Cx) (g : Gh) (st : St) (a : Act) : Prop where
 nb : g.nb = st.bx.length
 nr : g.nr = st.rw.length
 defers : DefOk C g a.defers
 size : a.tmps.size = C.N
 tm : ∀ t, rel g (look st.tm t) (a.tmps.getD t undef)
 frz : ∀ k sz els, st.rw[k]? = some (.frz sz els) → Rd g.μ (.sl true sz els) (g.σ k)
 pin : PinOk C.pin g

structure Mem (C : Cx) (g : Gh) (st : St) (w : World) : Prop where
 os : w.os = C.w0.os
 tape : w.tape = C.w0.tape
 output : w.output = C.w0.output
 size : C.w0.heap.size ≤ w.heap.size
 old : ∀ q b, frS C g.fo q b = true → w.heap[b]? = (frW C g.wy q).heap[b]? ∧ g.tag b = .imm
 fresh : ∀ b, w.heap.size ≤ b → g.tag b = .imm
 box : ∀ k b, st.bx[k]? = some (some b) → g.tag (g.ρ k) = .box k ∧ ∃ cs, w.heap[g.ρ k]? = some (.cells cs b.ty (0, 0)) ∧ rels g b.cells cs.toList
 row : ∀ k ety size els, st.rw[k]? = some (.own ety size els) → RowOk g.μ C.w0.heap.size w (g.σ k) ety size els ∧ ∀ b, ob (g.σ k) = some b → g.tag b = .row k
 imm : ∀ f, (g.μ f).In w ∧ ∀ b o, g.μ f b = some o → g.tag b = .imm
 keep : ∀ b o, g.μ true b = some o → (C.w0.heap.size ≤ b ∨ ∃ o', C.kp b = some o') ∧ C.pin.np b = false
 np : ∀ b, C.pin.np b = true → g.tag b = .imm ∧ b < w.heap.size
 hs : Hse C g st w

/-! ### Small laws -/
theorem rel_norm {C : Cx} {g : Gh} {st : St} {a : Act} (h : TmOk C g st a) {x : SV} {u : Value} (hr : rel g x u) : rel g (norm st.rw x) u := by
 cases x with
 | row k =>
  simp only [norm, nth_eq]
  cases hk : st.rw[k]? with
  | none => exact hr
  | some r =>
   cases r with
   | gone => exact hr
   | gh _ _ => exact hr
   | own _ _ _ => exact hr
   | frz sz els =>
    simp only [rel, rwN] at hr ⊢
    rw [hr.1]; exact h.frz k sz els hk
 | _ => exact hr

theorem rels_map_v (g : Gh) (l : List Value) : rels g (l.map SV.v) l := by
 induction l with
 | nil => simp [rels]
 | cons x l ih => simp [rels, rel, ih]

theorem rel_ofV (g : Gh) (v : Value) : rel g (ofV v) v := by
 cases v with
 | agg cs => simp [ofV, rel]; exact rels_map_v g _
 | _ => simp [ofV, rel]

theorem rel_ev {C : Cx} {g : Gh} {st : St} {a : Act} (h : TmOk C g st a) (x : Operand) : rel g (st.ev x) (a.eval x) := by
 cases x with
 | tmp t => exact rel_norm h (h.tm t)
 | const v => exact rel_ofV g v
 | global i =>
  simp only [St.ev, Act.eval]
  have h0 := h.tm 2000000
  unfold evG
  split
  ·rename_i j cs he
   rw [he] at h0
   split
   ·rename_i hj; subst hj; exact ⟨_, rfl, h0⟩
   ·rfl
  ·rfl
 | func f => exact ⟨#[], rfl, by simp [rels]⟩

theorem rels_evs {C : Cx} {g : Gh} {st : St} {a : Act} (h : TmOk C g st a) (l : List Operand) : rels g (l.map st.ev) (l.map a.eval) := by
 induction l with
 | nil => simp [rels]
 | cons x l ih => exact ⟨rel_ev h x, ih⟩

theorem rels_length {g : Gh} : ∀ {l : List SV} {us : List Value}, rels g l us → us.length = l.length
 | [], [], _ => rfl
 | _ :: _, _ :: _, h => by simp [rels_length h.2]
 | [], _ :: _, h => h.elim
 | _ :: _, [], h => h.elim

theorem rels_get {g : Gh} : ∀ {l : List SV} {us : List Value}, rels g l us → ∀ (i : Nat) (x : SV), l[i]? = some x → ∃ u, us[i]? = some u ∧ rel g x u
 | [], _, _, i, x, hi => by simp at hi
 | y :: l, u :: us, h, 0, x, hi => by simp at hi; subst hi; exact ⟨u, rfl, h.1⟩
 | y :: l, u :: us, h, i + 1, x, hi => by simpa using rels_get h.2 i x (by simpa using hi)
 | _ :: _, [], h, _, _, _ => h.elim

theorem rels_append {g : Gh} : ∀ {l : List SV} {us : List Value} {l' : List SV} {us' : List Value}, rels g l us → rels g l' us' → rels g (l ++ l') (us ++ us')
 | [], [], _, _, _, h => h
 | _ :: _, _ :: _, _, _, h, h' => ⟨h.1, rels_append h.2 h'⟩
 | [], _ :: _, _, _, h, _ => h.elim
 | _ :: _, [], _, _, h, _ => h.elim
theorem rels_take {g : Gh} : ∀ {l : List SV} {us : List Value} (n : Nat), rels g l us → rels g (l.take n) (us.take n)
 | _, _, 0, _ => by simp [rels]
 | [], [], _ + 1, _ => by simp [rels]
 | _ :: _, _ :: _, n + 1, h => ⟨h.1, rels_take n h.2⟩
 | [], _ :: _, _ + 1, h => h.elim
 | _ :: _, [], _ + 1, h => h.elim
theorem rels_drop {g : Gh} : ∀ {l : List SV} {us : List Value} (n : Nat), rels g l us → rels g (l.drop n) (us.drop n)
 | _, _, 0, h => h
 | [], [], _ + 1, _ => by simp [rels]
 | _ :: _, _ :: _, n + 1, h => rels_drop n h.2
 | [], _ :: _, _ + 1, h => h.elim
 | _ :: _, [], _ + 1, h => h.elim

mutual
theorem rel_ofD {g : Gh} : ∀ (d : D) (u : Value), Rd g.μ d u → rel g (ofD d) u
 | .v x, u, h => by simp only [Rd] at h; exact h.1
 | .sl b sz els, u, h => h
 | .pt b cs, u, h => h
 | .clo f l, u, h => by
  simp only [Rd] at h
  obtain ⟨cs, h1, h2⟩ := h
  exact ⟨cs, h1, rels_ofDL l _ h2⟩
theorem rels_ofDL {g : Gh} : ∀ (l : List D) (us : List Value), RdL g.μ l us → rels g (ofDL l) us
 | [], [], _ => by simp [ofDL, rels]
 | d :: l, u :: us, h => by
  simp only [RdL] at h
  exact ⟨rel_ofD d u h.1, rels_ofDL l us h.2⟩
 | [], _ :: _, h => by simp [RdL] at h
 | _ :: _, [], h => by simp [RdL] at h
end

theorem TmOk.put {C : Cx} {g : Gh} {st : St} {a : Act} (h : TmOk C g st a) {d : Option Nat} (hd : ∀ t, d = some t → t < C.N) {x : SV} {u : Value} (hr : rel g x u) : TmOk C g (st.put d x) (a.put d u) := by
 cases d with
 | none => exact h
 | some t =>
  refine ⟨h.nb, h.nr, h.defers, by simp [Act.put, h.size], fun t' => ?_, h.frz, h.pin⟩
  simp only [St.put, Act.put, look]
  split
  ·rename_i e; subst e
   have : t < a.tmps.size := by rw [h.size]; exact hd t rfl
   simpa [this] using hr
  ·rename_i e
   have h' := h.tm t'
   have e2 : (a.tmps.setIfInBounds t u).getD t' undef = a.tmps.getD t' undef := by
    simp only [Array.getD_eq_getD_getElem?, Array.getElem?_setIfInBounds, e, if_false]
   rw [e2]; exact h'

/-- A later ghost knows what an earlier one knows. -/
structure Gh.Le (g g' : Gh) : Prop where
 nb : g.nb ≤ g'.nb
 nr : g.nr ≤ g'.nr
 ρ : ∀ k, k < g.nb → g'.ρ k = g.ρ k
 σ : ∀ k, k < g.nr → g'.σ k = g.σ k
 μ : g.μ.Le g'.μ
theorem Gh.Le.refl (g : Gh) : g.Le g := ⟨Nat.le_refl _, Nat.le_refl _, fun _ _ => rfl, fun _ _ => rfl, .refl _⟩
theorem Gh.Le.trans {a b c : Gh} (h : a.Le b) (k : b.Le c) : a.Le c :=
 ⟨Nat.le_trans h.nb k.nb, Nat.le_trans h.nr k.nr, fun n hn => (k.ρ n (Nat.lt_of_lt_of_le hn h.nb)).trans (h.ρ n hn), fun n hn => (k.σ n (Nat.lt_of_lt_of_le hn h.nr)).trans (h.σ n hn), h.μ.trans k.μ⟩

theorem PinOk.mono {p : Pin} {g g' : Gh} (h : PinOk p g) (hg : g.Le g') : PinOk p g' :=
 ⟨Nat.le_trans h.nb hg.nb, Nat.le_trans h.nr hg.nr, fun k hk => (hg.ρ k (Nat.lt_of_lt_of_le hk h.nb)).trans (h.ρ k hk), fun k hk => (hg.σ k (Nat.lt_of_lt_of_le hk h.nr)).trans (h.σ k hk), h.μ.trans hg.μ⟩

mutual
theorem rel_mono {g g' : Gh} (hg : g.Le g') : ∀ (v : SV) (u : Value), rel g v u → rel g' v u
 | .any, _, _ => trivial
 | .v _, _, h => h
 | .sl .., _, h => Rd.mono hg.μ _ _ h
 | .pt .., _, h => Rd.mono hg.μ _ _ h
 | .box k off, u, h => ⟨by rw [hg.ρ k h.2]; exact h.1, Nat.lt_of_lt_of_le h.2 hg.nb⟩
 | .row k, u, h => ⟨by rw [hg.σ k h.2.2]; exact h.1, h.2.1, Nat.lt_of_lt_of_le h.2.2 hg.nr⟩
 | .relt k i s o, u, ⟨b, h1, h2, h3, h4⟩ => ⟨b, by rw [hg.σ k h3]; exact h1, h2, Nat.lt_of_lt_of_le h3 hg.nr, h4⟩
 | .agg l, u, ⟨cs, h1, h2⟩ => ⟨cs, h1, rels_mono hg l _ h2⟩
 | .tup l, u, ⟨cs, h1, h2⟩ => ⟨cs, h1, rels_mono hg l _ h2⟩
 | .clo _ l, u, ⟨cs, h1, h2⟩ => ⟨cs, h1, rels_mono hg l _ h2⟩
 | .arm, _, _ => trivial
 | .ali k u, _, h => ⟨by rw [hg.σ k h.2.2]; exact h.1, h.2.1, Nat.lt_of_lt_of_le h.2.2 hg.nr⟩
 | .glo .., _, h => RdC.mono hg.μ _ _ _ _ h
 | .bxa k b, _, h => ⟨by rw [hg.ρ k h.2]; exact h.1, Nat.lt_of_lt_of_le h.2 hg.nb⟩
 | .cap .., _, h => ⟨Rd.mono hg.μ _ _ h.1, h.2⟩
theorem rels_mono {g g' : Gh} (hg : g.Le g') : ∀ (l : List SV) (us : List Value), rels g l us → rels g' l us
 | [], [], h => h
 | x :: l, u :: us, h => ⟨rel_mono hg x u h.1, rels_mono hg l us h.2⟩
 | [], _ :: _, h => h.elim
 | _ :: _, [], h => h.elim
end
theorem RowOk.mono {μ ν : Mu} (h : μ.Le ν) {base : Nat} {w : World} {v : Value} {ety size : Nat} {els : List (List D)} (hr : RowOk μ base w v ety size els) : RowOk ν base w v ety size els := by
 rcases hr with ⟨h0, vss, h1, h2, h3⟩ | hr
 ·exact .inl ⟨h0, vss, h1, h2, h3.mono h⟩
 ·exact .inr ⟨hr.1, hr.2.imp (fun d u => Rd.mono h d u)⟩

theorem Mem.put {C : Cx} {g : Gh} {st : St} {w : World} (h : Mem C g st w) (d : Option Nat) (x : SV) : Mem C g (st.put d x) w := by
 cases d with
 | none => exact h
 | some t => exact ⟨h.os, h.tape, h.output, h.size, h.old, h.fresh, h.box, h.row, h.imm, h.keep, h.np, h.hs.same (Nat.le_refl _) rfl⟩

/-- the fence in which code is carried out. -/
def Fx : Option Nat → Fence
 | none => .wide
 | some l => Fence.wide.inRound l
theorem Fx_fn (ro : Option Nat) (f : FuncId) : (Fx ro).fn f := by cases ro <;> trivial
theorem Fx_round (ro : Option Nat) : (Fx ro).round = ro := by cases ro <;> rfl
theorem Fx_depth (ro : Option Nat) : (Fx ro).depth = none := by cases ro <;> rfl
theorem Fx_room (ro : Option Nat) (n : Nat) : (Fx ro).room n := fun d h => by rw [Fx_depth] at h; cases h
theorem callsIn_Fx {ro : Option Nat} {n : Nat} {P : Program} {f : FuncId} {args : Array Value} {w : World} {R : Ending → World → Prop} (h : Calls P f args w R) : CallsIn (Fx ro) n P f args w R := by
 cases ro with
 | none => exact callsIn_wide.2 h
 | some l => exact callsIn_wide (n := n) |>.2 h
end Go.Vx
