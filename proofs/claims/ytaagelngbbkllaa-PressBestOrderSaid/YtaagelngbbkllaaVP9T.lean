/-
  Chapter 9, plain: trees of orders.
-/
import Derived.Test.YtaagelngbbkllaaVW16
import Derived.Test.YtaagelngbbkllaaVW26
import Derived.Test.YtaagelngbbkllaaVW31
namespace Go.Proofs.Ytaagelngbbkllaa
set_option linter.unusedVariables false
set_option linter.unusedSimpArgs false
/-- right beginnings of an order. -/
structure BgOk (n : Nat) (o : List Int) : Prop where
  nd : o.Nodup
  rg : ∀ i ∈ o, 0 ≤ i ∧ i < (n : Int)
theorem BgOk.nil (n : Nat) : BgOk n [] := ⟨List.nodup_nil, fun i h => absurd h (List.not_mem_nil)⟩
theorem othK_mem {o : List Int} {a : Int} : ∀ {k}, a ∈ othK o k ↔ (0 ≤ a ∧ a < (k : Int)) ∧ a ∉ o
  | 0 => by simp only [othK, List.not_mem_nil, false_iff]; omega
  | k + 1 => by
    rw [othK, List.mem_append, othK_mem]
    cases h : memB (k : Int) o with
    | true =>
      rw [memB_iff] at h
      simp only [if_true, List.not_mem_nil, or_false]
      constructor
      · rintro ⟨h1, h2⟩; exact ⟨by omega, h2⟩
      · rintro ⟨h1, h2⟩
        refine ⟨?_, h2⟩
        have : a ≠ (k : Int) := fun e => h2 (e ▸ h)
        omega
    | false =>
      rw [memB_not] at h
      simp only [Bool.false_eq_true, if_false, List.mem_singleton]
      constructor
      · rintro (⟨h1, h2⟩ | rfl)
        · exact ⟨by omega, h2⟩
        · exact ⟨by omega, h⟩
      · rintro ⟨h1, h2⟩
        by_cases e : a = (k : Int)
        · exact .inr e
        · exact .inl ⟨by omega, h2⟩
theorem othK_pre (o : List Int) : ∀ {k j : Nat}, k ≤ j → othK o k <+: othK o j
  | k, j, h => by
    induction h with
    | refl => exact List.prefix_rfl
    | step _ ih => exact ih.trans (by rw [othK]; exact List.prefix_append _ _)
theorem othK_nd (o : List Int) : ∀ k, (othK o k).Nodup
  | 0 => List.nodup_nil
  | k + 1 => by
    rw [othK]
    split
    · simpa using othK_nd o k
    · simp only [List.nodup_append, List.nodup_cons, List.not_mem_nil, not_false_eq_true, List.nodup_nil, and_self, true_and, List.mem_singleton]
      refine ⟨othK_nd o k, fun a ha b hb e => ?_⟩
      have := (othK_mem.1 ha).1
      omega
theorem othK_count {n : Nat} {o : List Int} (h : BgOk n o) : (othK o n).length + o.length = n := by
  have hp : (othK o n ++ o).Perm ((List.range n).map fun i : Nat => (i : Int)) := by
    rw [List.perm_ext_iff_of_nodup]
    · intro a
      simp only [List.mem_append, othK_mem, List.mem_map, List.mem_range]
      constructor
      · rintro (⟨h1, h2⟩ | h1)
        · exact ⟨a.toNat, by omega, by omega⟩
        · have := h.rg a h1
          exact ⟨a.toNat, by omega, by omega⟩
      · rintro ⟨i, hi, rfl⟩
        by_cases hm : (i : Int) ∈ o
        · exact .inr hm
        · exact .inl ⟨by omega, hm⟩
    · rw [List.nodup_append]
      exact ⟨othK_nd o n, h.nd, fun a ha b hb e => (othK_mem.1 ha).2 (e ▸ hb)⟩
    · exact List.Pairwise.map (fun i : Nat => (i : Int)) (fun a b h => by omega) List.nodup_range
  have := hp.length_eq
  simpa using this
theorem BgOk.len {n : Nat} {o : List Int} (h : BgOk n o) : o.length ≤ n := by have := othK_count h; omega
theorem BgOk.push {n : Nat} {o : List Int} (h : BgOk n o) {a : Int} (ha : a ∈ othK o n) : BgOk n (o ++ [a]) := by
  obtain ⟨h1, h2⟩ := othK_mem.1 ha
  refine ⟨?_, fun i hi => ?_⟩
  · simp only [List.nodup_append, List.nodup_cons, List.not_mem_nil, not_false_eq_true, List.nodup_nil, and_self, true_and, List.mem_singleton]
    exact ⟨h.nd, fun x hx b hb e => h2 (by rw [← hb, ← e]; exact hx)⟩
  · rcases List.mem_append.1 hi with hi | hi
    · exact h.rg i hi
    · rw [List.mem_singleton] at hi; subst hi; exact h1
/-- the number of what is left ahead of one that is left. -/
theorem othK_at {o : List Int} {k n : Nat} (hk : k < n) (hm : memB (k : Int) o = false) : (othK o n)[(othK o k).length]? = some (k : Int) := by
  obtain ⟨t, ht⟩ := othK_pre o (show k + 1 ≤ n from hk)
  rw [← ht, othK, hm]
  simp
theorem allE_push (c : Cols) (o : List Int) (a : Int) : allE c (o ++ [a]) = withE c (allE c o) a := by
  unfold allE; rw [List.foldl_append]; rfl
theorem allE_order (c : Cols) (o : List Int) : (allE c o).order = o := by
  have := allK_order (c := c) (o := o) o.length (Nat.le_refl _)
  rwa [allK_all, List.take_length] at this
theorem lsK_sum (c : Cols) (x : Beg) : ∀ k, lsK c x k = endB x + ((othK x.order k).map (minE c)).sum
  | 0 => by simp [lsK, othK]
  | k + 1 => by
    rw [lsK, lsK_sum c x k, othK]
    cases memB (k : Int) x.order <;> simp <;> omega
theorem leastE_sum (c : Cols) (o : List Int) : leastE c (allE c o) = endB (allE c o) + ((othK o c.minutes.length).map (minE c)).sum := by
  rw [leastE, lsK_sum, allE_order]

/-! ### a tree is walked -/
def nxE (own len : Nat) : List Int → Int
  | [] => 0
  | n :: l => if 0 ≤ n ∧ n ≤ (len : Int) - 1 then (if n ≤ (own : Int) then 9 else nxE own len l) else 6
def wL (rec : Nat → List Int → Int × Int) (o : List Int) : List Int → List Int → Int × Int
  | a :: r, b :: nx => if (rec b.toNat (o ++ [a])).2 = 0 then wL rec o r nx else rec b.toNat (o ++ [a])
  | _, _ => (0, 0)
def holdsE (c : Cols) (ms kind : Int) (o : List Int) : Bool := if kind = 1 then (allE c o).barred else !(allE c o).barred && decide (ms ≤ leastE c (allE c o))
def nodeE (tree : List Node) (own : Nat) : Node := tree.getD own ⟨0, []⟩
def wF (c : Cols) (ms : Int) (tree : List Node) (rec : Nat → List Int → Int × Int) (own : Nat) (o : List Int) : Int × Int :=
  if 0 ≤ (nodeE tree own).kind ∧ (nodeE tree own).kind ≤ 2 then
    if (nodeE tree own).kind = 0 then
      if othK o c.minutes.length = [] ∨ (nodeE tree own).next.length ≠ (othK o c.minutes.length).length then ((own : Int), 10)
      else if nxE own tree.length (nodeE tree own).next = 0 then wL rec o (othK o c.minutes.length) (nodeE tree own).next
      else ((own : Int), nxE own tree.length (nodeE tree own).next)
    else if holdsE c ms (nodeE tree own).kind o = true then (0, 0) else ((own : Int), 22)
  else ((own : Int), 15)
def walkE (c : Cols) (ms : Int) (tree : List Node) : Nat → Nat → List Int → Int × Int
  | 0 => wF c ms tree fun _ _ => (0, 0)
  | f + 1 => wF c ms tree (walkE c ms tree f)
def treeE (c : Cols) (ms : Int) (tree : List Node) : Int × Int :=
  if 0 ≤ ms ∧ ms ≤ 1000000 then (if 1 ≤ (tree.length : Int) ∧ (tree.length : Int) ≤ 3000 then walkE c ms tree c.minutes.length 0 [] else (0, 10)) else (0, 2)
theorem nxE_zero {own len : Nat} : ∀ {l : List Int}, nxE own len l = 0 ↔ ∀ e ∈ l, (own : Int) < e ∧ e < (len : Int)
  | [] => by simp [nxE]
  | n :: l => by
    rw [nxE, List.forall_mem_cons, ← nxE_zero (l := l)]
    split
    · split
      · simp; omega
      · constructor
        · intro h; exact ⟨by omega, h⟩
        · intro h; exact h.2
    · simp; omega

/-! ### a tree that is accepted proves its minutes -/
theorem wL_ok {rec : Nat → List Int → Int × Int} {o : List Int} : ∀ {r nx : List Int}, r.length = nx.length → (wL rec o r nx).2 = 0 → ∀ a ∈ r, ∃ b : Int, (rec b.toNat (o ++ [a])).2 = 0
  | [], _, _, _, a, ha => by simp at ha
  | _ :: _, [], h, _, _, _ => by simp at h
  | x :: r, b :: nx, hl, h, a, ha => by
    rw [wL] at h
    split at h
    · rename_i hb
      rcases List.mem_cons.1 ha with rfl | ha
      · exact ⟨b, hb⟩
      · exact wL_ok (by simpa using hl) h a ha
    · rename_i hb
      exact absurd h hb
theorem bar_app {c : Cols} : ∀ (tl o : List Int), (allE c o).barred = true → (allE c (o ++ tl)).barred = true
  | [], o, h => by simpa using h
  | a :: tl, o, h => by
    have := bar_app (c := c) tl (o ++ [a]) (by rw [allE_push]; simp only [withE, barK, h, Bool.true_or])
    simpa using this
theorem fold_max_ge (f : Int × Int → Int) : ∀ (l : List (Int × Int)) (a : Int), a ≤ l.foldl (fun a p => max a (f p)) a
  | [], a => Int.le_refl _
  | p :: l, a => by
    have := fold_max_ge f l (max a (f p))
    simp only [List.foldl_cons]; omega
theorem endB_push (c : Cols) (x : Beg) (i : Int) : endB x + minE c i ≤ endB (withE c x i) := by
  rw [endB_with, atK]
  have := fold_max_ge (fun p => p.2 + dryE c p.1 i) ((x.order.zip x.ends).take x.order.length) (endB x)
  omega
theorem endB_app (c : Cols) : ∀ (tl o : List Int), endB (allE c o) + (tl.map (minE c)).sum ≤ endB (allE c (o ++ tl))
  | [], o => by simp
  | a :: tl, o => by
    have h1 := endB_app c tl (o ++ [a])
    have h2 := endB_push c (allE c o) a
    rw [← allE_push] at h2
    simp only [List.append_assoc, List.singleton_append] at h1
    simp only [List.map_cons, List.sum_cons]
    omega
theorem perm_sum {l m : List Int} (h : l.Perm m) : l.sum = m.sum := by
  induction h with
  | nil => rfl
  | cons x _ ih => simp [ih]
  | swap x y l => simp only [List.sum_cons]; omega
  | trans _ _ h1 h2 => exact h1.trans h2
theorem tail_sum {c : Cols} {o tl : List Int} (h : BgOk c.minutes.length (o ++ tl)) (hl : (o ++ tl).length = c.minutes.length) : ((othK o c.minutes.length).map (minE c)).sum = (tl.map (minE c)).sum := by
  refine perm_sum (List.Perm.map _ ?_)
  have hd := h.nd
  rw [List.nodup_append] at hd
  have ho : BgOk c.minutes.length o := ⟨hd.1, fun i hi => h.rg i (List.mem_append_left _ hi)⟩
  rw [List.perm_ext_iff_of_nodup (othK_nd _ _) hd.2.1]
  have hsub : ∀ a ∈ tl, a ∈ othK o c.minutes.length := fun a ha => othK_mem.2 ⟨h.rg a (List.mem_append_right _ ha), fun hm => hd.2.2 a hm a ha rfl⟩
  intro a
  refine ⟨fun ha => ?_, hsub a⟩
  refine Classical.byContradiction fun hn => ?_
  have h1 : (a :: tl).Nodup := List.nodup_cons.2 ⟨hn, hd.2.1⟩
  have h2 : ∀ x ∈ a :: tl, x ∈ othK o c.minutes.length := fun x hx => by
    rcases List.mem_cons.1 hx with rfl | hx
    · exact ha
    · exact hsub x hx
  have h3 := List.Nodup.length_le_of_subset h1 h2
  have h4 := othK_count ho
  simp at h3 hl
  omega
theorem walk_step {c : Cols} {ms : Int} {tree : List Node} {rec : Nat → List Int → Int × Int} {own : Nat} {o tl : List Int} (h : BgOk c.minutes.length (o ++ tl)) (hl : (o ++ tl).length = c.minutes.length) (hb : (allE c (o ++ tl)).barred = false)
    (hr : ∀ a tl' b, tl = a :: tl' → (rec b (o ++ [a])).2 = 0 → ms ≤ endB (allE c (o ++ tl))) (hw : (wF c ms tree rec own o).2 = 0) : ms ≤ endB (allE c (o ++ tl)) := by
  unfold wF at hw
  split at hw
  · split at hw
    · split at hw
      · simp at hw
      · rename_i h1
        split at hw
        · have hle : (othK o c.minutes.length).length = (nodeE tree own).next.length := by
            by_cases e : (nodeE tree own).next.length = (othK o c.minutes.length).length
            · exact e.symm
            · exact absurd (.inr e) h1
          have hd := h.nd
          rw [List.nodup_append] at hd
          have ho : BgOk c.minutes.length o := ⟨hd.1, fun i hi => h.rg i (List.mem_append_left _ hi)⟩
          have hcount := othK_count ho
          cases tl with
          | nil =>
            exfalso
            refine h1 (.inl (List.eq_nil_of_length_eq_zero ?_))
            simp at hl; omega
          | cons a tl' =>
            obtain ⟨b, hb2⟩ := wL_ok hle hw a (othK_mem.2 ⟨h.rg a (by simp), fun hm => hd.2.2 a hm a (by simp) rfl⟩)
            exact hr a tl' _ rfl hb2
        · rename_i h2
          exact absurd hw h2
    · split at hw
      · rename_i h1
        unfold holdsE at h1
        split at h1
        · rw [bar_app tl o h1] at hb; cases hb
        · simp only [Bool.and_eq_true, decide_eq_true_eq] at h1
          have h3 := endB_app c tl o
          have h4 := leastE_sum c o
          rw [tail_sum h hl] at h4
          omega
      · simp at hw
  · simp at hw
theorem walk_proves {c : Cols} {ms : Int} {tree : List Node} : ∀ (f own : Nat) (o tl : List Int), BgOk c.minutes.length (o ++ tl) → (o ++ tl).length = c.minutes.length → tl.length = f → (allE c (o ++ tl)).barred = false → (walkE c ms tree f own o).2 = 0 → ms ≤ endB (allE c (o ++ tl))
  | 0, own, o, tl, h, hl, hf, hb, hw => by
    refine walk_step h hl hb (fun a tl' b e _ => ?_) hw
    subst e; simp at hf
  | f + 1, own, o, tl, h, hl, hf, hb, hw => by
    refine walk_step h hl hb (fun a tl' b e h2 => ?_) hw
    subst e
    have := walk_proves (tree := tree) (ms := ms) f b (o ++ [a]) tl' (by simpa using h) (by simpa using hl) (by simpa using hf) (by simpa using hb) h2
    simpa using this
theorem tree_proves {c : Cols} {ms : Int} {tree : List Node} {o : List Int} (h : (treeE c ms tree).2 = 0) (ho : ordErr c.minutes.length o = 0) (hb : (allE c o).barred = false) : ms ≤ endB (allE c o) := by
  obtain ⟨o1, o2, o3⟩ := ordErr_ok ho
  unfold treeE at h
  split at h
  · split at h
    · exact walk_proves (c := c) (tree := tree) c.minutes.length 0 [] o ⟨o2, o3⟩ o1 o1 hb h
    · simp at h
  · simp at h

/-! ### the tree that grows is accepted -/
def toN (x : Nd) : Node := ⟨x.kind, x.next.getD []⟩
def AgreeN (T : List Node) (G : List Nd) (s : Nat) : Prop := ∀ i, s ≤ i → ∀ z, G[i]? = some z → T[i]? = some (toN z)
theorem pre_get {α : Type} {l m : List α} (h : l <+: m) {i : Nat} {z : α} (hi : l[i]? = some z) : m[i]? = some z := by
  obtain ⟨t, rfl⟩ := h
  have : i < l.length := (List.getElem?_eq_some_iff.1 hi).1
  rw [List.getElem?_append_left this]; exact hi
theorem wL_push {rec : Nat → List Int → Int × Int} {o : List Int} {a b : Int} (h : rec b.toNat (o ++ [a]) = (0, 0)) : ∀ {r nx : List Int}, r.length = nx.length → wL rec o r nx = (0, 0) → wL rec o (r ++ [a]) (nx ++ [b]) = (0, 0)
  | [], [], _, _ => by simp [wL, h]
  | [], _ :: _, hl, _ => by simp at hl
  | _ :: _, [], hl, _ => by simp at hl
  | x :: r, y :: nx, hl, hw => by
    simp only [List.cons_append, wL] at hw ⊢
    split at hw
    · rename_i h1
      rw [if_pos h1]
      exact wL_push h (by simpa using hl) hw
    · rename_i h1
      rw [hw] at h1; exact absurd rfl h1
structure GrOk (c : Cols) (ms : Int) (T : List Node) (rec : Beg → List Nd → List Nd) (wrec : Nat → List Int → Int × Int) (B : Nat) (o : List Int) : Prop where
  lo : ∀ t, t.length < (rec (allE c o) t).length
  hi : ∀ t, (rec (allE c o) t).length ≤ t.length + B
  pre : ∀ t, t <+: rec (allE c o) t
  acc : ∀ t, AgreeN T (rec (allE c o) t) t.length → wrec t.length o = (0, 0)
theorem grK_ok {c : Cols} {ms : Int} {T : List Node} {rec : Beg → List Nd → List Nd} {wrec : Nat → List Int → Int × Int} {B : Nat} {o : List Int} (hr : ∀ a ∈ othK o c.minutes.length, GrOk c ms T rec wrec B (o ++ [a])) (nodes : List Nd) : ∀ k, k ≤ c.minutes.length →
    (grK c rec (allE c o) nodes k).2.length = (othK o k).length ∧ (∀ e ∈ (grK c rec (allE c o) nodes k).2, (nodes.length : Int) < e ∧ e < ((grK c rec (allE c o) nodes k).1.length : Int)) ∧
    (grK c rec (allE c o) nodes k).1.length ≤ nodes.length + 1 + (othK o k).length * B ∧ (nodes ++ [⟨0, none⟩]) <+: (grK c rec (allE c o) nodes k).1 ∧ (AgreeN T (grK c rec (allE c o) nodes k).1 (nodes.length + 1) → wL wrec o (othK o k) (grK c rec (allE c o) nodes k).2 = (0, 0))
  | 0, _ => by simp [grK, othK, wL]
  | k + 1, hk => by
    obtain ⟨h1, h2, h3, h4, h5⟩ := grK_ok hr nodes k (by omega)
    rw [grK, othK, allE_order]
    cases hm : memB (k : Int) o with
    | true => simpa using ⟨h1, h2, h3, h4, h5⟩
    | false =>
      simp only [Bool.false_eq_true, if_false]
      have hin : (k : Int) ∈ othK o c.minutes.length := List.mem_of_getElem? (othK_at (by omega) hm)
      obtain ⟨q1, q2, q3, q4⟩ := hr _ hin
      rw [← allE_push]
      generalize hg : grK c rec (allE c o) nodes k = g at *
      have p1 := q1 g.1
      have p2 := q2 g.1
      have p3 := q3 g.1
      have hlen : nodes.length + 1 ≤ g.1.length := by
        have := h4.length_le
        simpa using this
      refine ⟨by simp [h1], fun e he => ?_, ?_, h4.trans p3, fun hag => ?_⟩
      · rcases List.mem_append.1 he with he | he
        · have := h2 e he
          omega
        · rw [List.mem_singleton] at he
          subst he
          omega
      · simp only [List.length_append, List.length_singleton, Nat.succ_mul]
        omega
      · refine wL_push ?_ (by rw [h1]) (h5 fun i hi z hz => hag i hi z (pre_get p3 hz))
        rw [Int.toNat_natCast]
        exact q4 g.1 fun i hi z hz => hag i (by omega) z hz
theorem grF_ok {c : Cols} {ms : Int} {T : List Node} {rec : Beg → List Nd → List Nd} {wrec : Nat → List Int → Int × Int} {B : Nat} {o : List Int} (hr : ∀ a ∈ othK o c.minutes.length, GrOk c ms T rec wrec B (o ++ [a]))
    (hz : othK o c.minutes.length = [] → (allE c o).barred = false → ms ≤ endB (allE c o)) : GrOk c ms T (grF c ms rec) (wF c ms T wrec) (1 + (othK o c.minutes.length).length * B) o := by
  have key := fun nodes => grK_ok (ms := ms) (T := T) (wrec := wrec) hr nodes c.minutes.length (Nat.le_refl _)
  refine ⟨fun t => ?_, fun t => ?_, fun t => ?_, fun t hag => ?_⟩
  · obtain ⟨h1, h2, h3, h4, h5⟩ := key t
    unfold grF
    have := h4.length_le
    simp at this
    split
    · simp
    · split
      · simp
      · rw [List.length_set]; omega
  · obtain ⟨h1, h2, h3, h4, h5⟩ := key t
    unfold grF
    split
    · simp
    · split
      · simp
      · rw [List.length_set]; omega
  · obtain ⟨h1, h2, h3, h4, h5⟩ := key t
    unfold grF
    split
    · exact List.prefix_append _ _
    · split
      · exact List.prefix_append _ _
      · exact pre_set ((List.prefix_append _ _).trans h4)
  · obtain ⟨h1, h2, h3, h4, h5⟩ := key t
    unfold grF at hag
    split at hag
    · rename_i hb
      have hn : nodeE T t.length = ⟨1, []⟩ := by
        have := hag t.length (Nat.le_refl _) ⟨1, none⟩ (by simp)
        simp [nodeE, List.getD_eq_getElem?_getD, this, toN]
      unfold wF holdsE
      rw [hn]
      simp [hb]
    · rename_i hb
      have hb' : (allE c o).barred = false := by simpa using hb
      split at hag
      · rename_i hl
        have hn : nodeE T t.length = ⟨2, []⟩ := by
          have := hag t.length (Nat.le_refl _) ⟨2, none⟩ (by simp)
          simp [nodeE, List.getD_eq_getElem?_getD, this, toN]
        unfold wF holdsE
        rw [hn]
        simp [hb', hl]
      · rename_i hl
        have hlen := h4.length_le
        simp at hlen
        generalize hg : grK c rec (allE c o) t c.minutes.length = g at *
        have hn : nodeE T t.length = ⟨0, g.2⟩ := by
          have := hag t.length (Nat.le_refl _) ⟨0, some g.2⟩ (by rw [List.getElem?_set_self (by omega)])
          simp [nodeE, List.getD_eq_getElem?_getD, this, toN]
        have hag2 : AgreeN T g.1 (t.length + 1) := fun i hi z hz => hag i (by omega) z (by rw [List.getElem?_set_ne (by omega)]; exact hz)
        have hTl : g.1.length ≤ T.length := by
          have hlast : g.1[g.1.length - 1]? = some (g.1[g.1.length - 1]'(by omega)) := List.getElem?_eq_getElem (by omega)
          by_cases e : g.1.length - 1 = t.length
          · have := hag t.length (Nat.le_refl _) ⟨0, some g.2⟩ (by rw [List.getElem?_set_self (by omega)])
            have := (List.getElem?_eq_some_iff.1 this).1
            omega
          · have := hag2 (g.1.length - 1) (by omega) _ hlast
            have := (List.getElem?_eq_some_iff.1 this).1
            omega
        have hne : othK o c.minutes.length ≠ [] := fun e => by
          have h6 := hz e hb'
          rw [leastE_sum, e] at hl
          simp at hl; omega
        have hnx : nxE t.length T.length g.2 = 0 := nxE_zero.2 fun e he => by have := h2 e he; omega
        unfold wF
        rw [hn]
        simp only [Int.le_refl, true_and]
        rw [if_pos (by decide), if_pos trivial, if_neg (fun h => h.elim hne (fun h => h h1)), if_pos hnx]
        exact h5 hag2
def cntE : Nat → Nat
  | 0 => 1
  | f + 1 => 1 + (f + 1) * cntE f
theorem grow_ok {c : Cols} {ms : Int} {T : List Node} (hmin : ∀ o, BgOk c.minutes.length o → o.length = c.minutes.length → (allE c o).barred = false → ms ≤ endB (allE c o)) : ∀ (f : Nat) (o : List Int), BgOk c.minutes.length o → o.length + f = c.minutes.length → GrOk c ms T (growE c ms f) (walkE c ms T f) (cntE f) o
  | 0, o, h, hl => by
    have hc := othK_count h
    have he : othK o c.minutes.length = [] := List.eq_nil_of_length_eq_zero (by omega)
    have := grF_ok (c := c) (ms := ms) (T := T) (rec := fun _ t => t) (wrec := fun _ _ => (0, 0)) (B := 0) (o := o) (fun a ha => by rw [he] at ha; cases ha) (fun _ hb => hmin o h (by omega) hb)
    rw [he] at this
    exact this
  | f + 1, o, h, hl => by
    have hc := othK_count h
    have := grF_ok (c := c) (ms := ms) (T := T) (rec := growE c ms f) (wrec := walkE c ms T f) (B := cntE f) (o := o) (fun a ha => grow_ok hmin f (o ++ [a]) (h.push ha) (by simp; omega)) (fun e _ => by rw [e] at hc; simp at hc; omega)
    rw [show (othK o c.minutes.length).length = f + 1 by omega] at this
    exact this
theorem cntE_le : ∀ f, f ≤ 6 → cntE f ≤ 1957
  | 0, _ => by decide
  | 1, _ => by decide
  | 2, _ => by decide
  | 3, _ => by decide
  | 4, _ => by decide
  | 5, _ => by decide
  | 6, _ => by decide
  | n + 7, h => by omega
end Go.Proofs.Ytaagelngbbkllaa
