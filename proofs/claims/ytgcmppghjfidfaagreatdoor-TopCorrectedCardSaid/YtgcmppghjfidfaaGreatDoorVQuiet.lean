/-
  The executor is sound: the quiet operations.
-/
import Derived.Test.YtgcmppghjfidfaaGreatDoorVExec
namespace Go.Vx
open Go Go.RowKit
set_option linter.unusedSimpArgs false

/-- A quiet operation: its value, and the one block that it reads. -/
def fpOf (st : St) : Op → Fp
  | .load _ x => fpV (st.ev x)
  | _ => .no
def OpQ (C : Cx) (o : Oper) (st : St) (v : SV) : Prop :=
  ∀ g a w0, TmOk C g st a → Mem C g st w0 → ∃ u B, rel g v u ∧ FpOk g (fpOf st o.op) B ∧ (fpOf st o.op ≠ .no → B < w0.heap.size) ∧ ∀ w, (fpOf st o.op ≠ .no → w.heap[B]? = w0.heap[B]?) → (execOp a.eval o).run C.P w = .ok (.value u) w
/-- one that reads no memory. -/
def OpN (C : Cx) (o : Oper) (st : St) (v : SV) : Prop :=
  ∀ g a w0, TmOk C g st a → Mem C g st w0 → ∃ u, rel g v u ∧ ∀ w, (execOp a.eval o).run C.P w = .ok (.value u) w
theorem OpN.quiet {C : Cx} {o : Oper} {st : St} {v : SV} (hf : fpOf st o.op = .no) (h : OpN C o st v) : OpQ C o st v := fun g a w0 ht hm => by
  obtain ⟨u, h1, h2⟩ := h g a w0 ht hm
  exact ⟨u, 0, h1, by rw [hf]; trivial, fun h => absurd hf h, fun w _ => h2 w⟩
theorem cell_congr {w w' : World} {a : Addr} (h : w'.heap[a.block]? = w.heap[a.block]?) : w'.cell? a = w.cell? a := by
  unfold World.cell?; rw [h]
theorem InK.wrap {k : IntKind} {e : Int} (h : InK k e) : k.wrap e = e := by
  cases k <;> simp only [InK] at h
  case i64 => exact IntWalk.i64_in e h
  case u8 => exact IntWalk.u8_in e h
  case i32 => exact IntWalk.i32_in e h
  case u32 => exact IntWalk.u32_in e h
  case u64 => exact IntWalk.u64_in e h
  all_goals exact h

theorem lenN_eq {α : Type} : ∀ l : List α, lenN l = l.length
  | [] => rfl
  | _ :: l => by simp [lenN, lenN_eq l]
theorem dropN_eq {α : Type} : ∀ (n : Nat) (l : List α), dropN n l = l.drop n
  | 0, _ => rfl
  | _ + 1, [] => rfl
  | n + 1, _ :: l => by simpa [dropN] using dropN_eq n l
theorem takeN_eq {α : Type} : ∀ (n : Nat) (l m : List α), takeN n l = some m → m = l.take n ∧ m.length = n
  | 0, _, _, h => by simp [takeN] at h; subst h; simp
  | _ + 1, [], _, h => by simp [takeN] at h
  | n + 1, x :: l, m, h => by
    simp only [takeN, Option.map_eq_some_iff] at h
    obtain ⟨m', h1, rfl⟩ := h
    obtain ⟨rfl, h2⟩ := takeN_eq n l m' h1
    simpa using h2
theorem setN_eq {α : Type} : ∀ (l : List α) (n : Nat) (y : α), setN l n y = l.set n y
  | [], _, _ => rfl
  | _ :: _, 0, _ => rfl
  | _ :: l, n + 1, y => by simp [setN, setN_eq l n y]
theorem putL_eq {α : Type} : ∀ (l : List α) (o : Nat) (ys m : List α), putL l o ys = some m → o + ys.length ≤ l.length ∧ m = l.take o ++ ys ++ l.drop (o + ys.length)
  | l, 0, [], m, h => by simp [putL] at h; subst h; simp
  | [], 0, y :: ys, m, h => by simp [putL] at h
  | [], _ + 1, ys, m, h => by simp [putL] at h
  | x :: l, 0, y :: ys, m, h => by
    simp only [putL, Option.map_eq_some_iff] at h
    obtain ⟨m', h1, rfl⟩ := h
    obtain ⟨h2, rfl⟩ := putL_eq l 0 ys m' h1
    simp at h2 ⊢
    omega
  | x :: l, n + 1, ys, m, h => by
    simp only [putL, Option.map_eq_some_iff] at h
    obtain ⟨m', h1, rfl⟩ := h
    obtain ⟨h2, rfl⟩ := putL_eq l n ys m' h1
    refine ⟨by simp at h2 ⊢; omega, ?_⟩
    rw [show n + 1 + ys.length = (n + ys.length) + 1 by omega]
    simp

theorem rel_derE {g : Gh} {e x : SV} {u0 v : Value} (h : rel g e u0) (hr : rel g x v) : rel g (derE e x) v := by
  unfold derE
  split
  · unfold derA
    split
    · split
      · rename_i hu
        simp only [rel] at h hr ⊢
        rw [hr, ← hu]; exact h
      · exact hr
    · exact hr
  · unfold derB
    split
    · split
      · rename_i hu
        simp only [rel] at h hr ⊢
        exact ⟨by rw [hr, hu, h.1], h.2⟩
      · exact hr
    · exact hr
  · exact hr
mutual
theorem rel_holdV {g : Gh} {k : Nat} {w u0 : Value} (h : rel g (.ali k w) u0) : ∀ (x : SV) (v : Value), rel g x v → rel g (holdV k w x) v
  | .row j, v, hr => by
    simp only [holdV]
    split
    · rename_i hj; subst hj; simp only [rel] at h hr ⊢; rw [hr.1, h.1]
    · exact hr
  | .agg l, v, ⟨cs, h1, h2⟩ => by simp only [holdV]; exact ⟨cs, h1, rels_holdL h l _ h2⟩
  | .any, _, hr => hr
  | .v _, _, hr => hr
  | .sl .., _, hr => hr
  | .pt .., _, hr => hr
  | .box .., _, hr => hr
  | .relt .., _, hr => hr
  | .tup .., _, hr => hr
  | .clo .., _, hr => hr
  | .arm, _, hr => hr
  | .ali .., _, hr => hr
  | .bxa .., _, hr => hr
  | .glo .., _, hr => hr
  | .cap .., _, hr => hr
theorem rels_holdL {g : Gh} {k : Nat} {w u0 : Value} (h : rel g (.ali k w) u0) : ∀ (l : List SV) (vs : List Value), rels g l vs → rels g (holdL k w l) vs
  | [], [], hr => hr
  | x :: l, v :: vs, hr => by simp only [holdL]; exact ⟨rel_holdV h x v hr.1, rels_holdL h l vs hr.2⟩
  | [], _ :: _, hr => hr.elim
  | _ :: _, [], hr => hr.elim
end
mutual
theorem rel_holdB {g : Gh} {k b : Nat} {u0 : Value} (h : rel g (.bxa k b) u0) : ∀ (x : SV) (v : Value), rel g x v → rel g (holdB k b x) v
  | .box j o, v, hr => by
    simp only [holdB]
    split
    · rename_i hj; subst hj; simp only [rel] at h hr ⊢; rw [hr.1, h.1]
    · exact hr
  | .agg l, v, ⟨cs, h1, h2⟩ => by simp only [holdB]; exact ⟨cs, h1, rels_holdB h l _ h2⟩
  | .any, _, hr => hr
  | .v _, _, hr => hr
  | .sl .., _, hr => hr
  | .pt .., _, hr => hr
  | .row .., _, hr => hr
  | .relt .., _, hr => hr
  | .tup .., _, hr => hr
  | .clo .., _, hr => hr
  | .arm, _, hr => hr
  | .ali .., _, hr => hr
  | .bxa .., _, hr => hr
  | .glo .., _, hr => hr
  | .cap .., _, hr => hr
theorem rels_holdB {g : Gh} {k b : Nat} {u0 : Value} (h : rel g (.bxa k b) u0) : ∀ (l : List SV) (vs : List Value), rels g l vs → rels g (holdBL k b l) vs
  | [], [], hr => hr
  | x :: l, v :: vs, hr => by simp only [holdBL]; exact ⟨rel_holdB h x v hr.1, rels_holdB h l vs hr.2⟩
  | [], _ :: _, hr => hr.elim
  | _ :: _, [], hr => hr.elim
end
theorem rel_hev {C : Cx} {g : Gh} {st : St} {a : Act} (ht : TmOk C g st a) (y : Operand) : rel g (hev st y) (a.eval y) := by
  unfold hev hevE
  have h0 := ht.tm 1000000
  split
  · rename_i k u he; rw [he] at h0; exact rel_holdV h0 _ _ (rel_ev ht y)
  · rename_i k u he; rw [he] at h0; exact rel_holdB h0 _ _ (rel_ev ht y)
  · exact rel_ev ht y
theorem rels_hevs {C : Cx} {g : Gh} {st : St} {a : Act} (h : TmOk C g st a) (l : List Operand) : rels g (l.map (hev st)) (l.map a.eval) := by
  induction l with
  | nil => simp [rels]
  | cons x l ih => exact ⟨rel_hev h x, ih⟩
theorem rel_cells {g : Gh} {x : SV} {cs : List SV} {u : Value} (h : cellsOf x = some cs) (hr : rel g x u) : rels g cs u.cells.toList := by
  cases x with
  | any => simp [cellsOf] at h
  | tup l => simp [cellsOf] at h
  | arm => simp [cellsOf] at h
  | ali _ _ => simp [cellsOf] at h
  | bxa _ _ => simp [cellsOf] at h
  | glo _ _ => simp [cellsOf] at h
  | cap _ _ _ => simp [cellsOf] at h
  | agg l =>
    simp only [cellsOf, Option.some.injEq] at h; subst h
    obtain ⟨c, rfl, hc⟩ := hr
    exact hc
  | v y =>
    cases y <;> simp only [cellsOf, Option.some.injEq] at h <;> subst h <;> (simp only [rel] at hr; subst hr; simp [Value.cells, rels, rel, rels_map_v])
  | sl b sz els =>
    simp only [cellsOf, Option.some.injEq] at h; subst h
    have hr' := hr
    simp only [rel, Rd] at hr'
    obtain ⟨A, c, rfl, _⟩ := hr'
    exact ⟨hr, trivial⟩
  | pt b cs =>
    simp only [cellsOf, Option.some.injEq] at h; subst h
    have hr' := hr
    simp only [rel, Rd] at hr'
    obtain ⟨a, rfl, _⟩ := hr'
    exact ⟨hr, trivial⟩
  | box k o => simp only [cellsOf, Option.some.injEq] at h; subst h; obtain ⟨rfl, hk⟩ := hr; exact ⟨⟨rfl, hk⟩, trivial⟩
  | clo f l =>
    simp only [cellsOf, Option.some.injEq] at h; subst h
    obtain ⟨c, rfl, hc⟩ := hr
    exact ⟨⟨c, rfl, hc⟩, trivial⟩
  | relt A i s o =>
    simp only [cellsOf, Option.some.injEq] at h; subst h
    obtain ⟨c, hA, rfl, hk⟩ := hr
    exact ⟨⟨c, hA, rfl, hk⟩, trivial⟩
  | row k =>
    simp only [cellsOf, Option.some.injEq] at h; subst h
    obtain ⟨h1, hf, hk⟩ := hr
    have hc : u.cells.toList = [u] := by rcases hf with ⟨a, n, c, rfl⟩ | ⟨b, rfl⟩ <;> rfl
    rw [hc]
    exact ⟨⟨h1, hf, hk⟩, trivial⟩

theorem rel_rels_scs {g : Gh} : ∀ {l : List SV} {us : List Value} {as : List Sc}, scsOf l = some as → rels g l us → us = as.map Sc.v
  | [], [], _, h, _ => by simp [scsOf] at h; subst h; rfl
  | [], _ :: _, _, _, hr => hr.elim
  | _ :: _, [], _, _, hr => hr.elim
  | x :: l, u :: us, as, h, hr => by
    unfold scsOf at h
    split at h
    · rename_i h'; cases h'
    · rename_i n l' h'
      cases h'
      simp only [Option.map_eq_some_iff] at h
      obtain ⟨bs, h1, rfl⟩ := h
      have := rel_rels_scs h1 hr.2
      have h2 : u = Value.int .i64 n := hr.1
      rw [h2, this]; rfl
    · rename_i n l' h'
      cases h'
      simp only [Option.map_eq_some_iff] at h
      obtain ⟨bs, h1, rfl⟩ := h
      have := rel_rels_scs h1 hr.2
      have h2 : u = Value.string n := hr.1
      rw [h2, this]; rfl
    · cases h
theorem rel_rels_ints {g : Gh} : ∀ {l : List SV} {us : List Value} {as : List Int}, intsOf l = some as → rels g l us → us = as.map (Value.int .i64)
  | [], [], _, h, _ => by simp [intsOf] at h; subst h; rfl
  | [], _ :: _, _, _, hr => hr.elim
  | _ :: _, [], _, _, hr => hr.elim
  | x :: l, u :: us, as, h, hr => by
    cases x with
    | v y =>
      cases y with
      | int k n =>
        cases k <;> simp only [intsOf] at h <;> try (cases h; done)
        simp only [Option.map_eq_some_iff] at h
        obtain ⟨bs, h1, rfl⟩ := h
        have := rel_rels_ints h1 hr.2
        have h2 : u = Value.int .i64 n := hr.1
        rw [h2, this]; rfl
      | _ => simp [intsOf] at h
    | _ => simp [intsOf] at h

theorem ibin_sound {op : BinOp} {kd : IntKind} {a b : Int} {k : SV → Prop} {l : Lk k} (h : ibin op kd a b k l) :
    ∃ v, (∀ P t x y w, ((do eqGuard op t x y (.int kd a) (.int kd b); binOp op t (.int kd a) (.int kd b)) : Sem Value).run P w = .ok v w) ∧ k (.v v) := by
  cases op <;> simp only [ibin, Vc] at h <;> try (exact h.elim)
  case add => exact ⟨_, fun P t x y w => by simp [binOp, Op.intArith, h.1.wrap, go_sem], h.2⟩
  case sub => exact ⟨_, fun P t x y w => by simp [binOp, Op.intArith, h.1.wrap, go_sem], h.2⟩
  case mul => exact ⟨_, fun P t x y w => by simp [binOp, Op.intArith, h.1.wrap, go_sem], h.2⟩
  case quo => exact ⟨_, fun P t x y w => by simp [binOp, Op.intDiv, h.1.1, h.1.2.wrap, go_sem], h.2⟩
  case rem => exact ⟨_, fun P t x y w => by simp [binOp, Op.intDiv, h.1, go_sem], h.2⟩
  case eql => exact ⟨_, fun P t x y w => by simp [binOp, Op.intCmp, go_sem]; rfl, h⟩
  case neq => exact ⟨_, fun P t x y w => by simp [binOp, Op.intCmp, go_sem, bne]; rfl, h⟩
  case lss => exact ⟨_, fun P t x y w => by simp [binOp, Op.intCmp, go_sem], h⟩
  case leq => exact ⟨_, fun P t x y w => by simp [binOp, Op.intCmp, go_sem], h⟩
  case gtr => exact ⟨_, fun P t x y w => by simp [binOp, Op.intCmp, go_sem], h⟩
  case geq => exact ⟨_, fun P t x y w => by simp [binOp, Op.intCmp, go_sem], h⟩
  case xor =>
    refine ⟨_, fun P t x y w => ?_, h.2⟩
    obtain ⟨⟨rfl | rfl, rfl | rfl⟩, -⟩ := h <;> cases kd <;> rfl

section
variable {C : Cx} {T : Tab} {o : Oper} {st : St} {k : SV → Prop}

theorem q_copy (x : Operand) (ho : o.op = .move x ∨ o.op = .assign x) : OpN C o st (st.ev x) := fun g a _ h _ =>
  ⟨a.eval x, rel_ev h x, fun w => by rcases ho with ho | ho <;> simp [execOp, ho]⟩

theorem q_pick {c x y : Operand} (ho : o.op = .pick c x y) {l : Lk (st.ev x, st.ev y, k)} (h : pickX (st.ev c) (st.ev x) (st.ev y) k l) : ∃ v, OpN C o st v ∧ k v := by
  have key : ∀ b : Bool, (∀ g a, TmOk C g st a → a.eval c = .bool b) → OpN C o st (if b then st.ev x else st.ev y) := fun b hb g a _ hg _ => by
    have := hb g a hg
    cases b
    · exact ⟨a.eval y, rel_ev hg y, fun w => by simp [execOp, ho, this, asBool]⟩
    · exact ⟨a.eval x, rel_ev hg x, fun w => by simp [execOp, ho, this, asBool]⟩
  unfold pickX at h
  split at h
  · rename_i b hc
    refine ⟨_, key b fun g a hg => by have := rel_ev hg c; rw [hc] at this; exact this, ?_⟩
    cases b
    · exact h.2 rfl
    · exact h.1 rfl
  · exact h.elim

theorem run_v {P : Program} {w : World} {s : Sem Value} {u : Value} (h : s.run P w = .ok u w) : ((do pure (Next.value (← s))) : Sem Next).run P w = .ok (.value u) w := by
  simp only [Sem.run_bind, h, Result.andThen_ok, Sem.run_pure]

theorem bytes_eql (a b : ByteArray) : (a.toList == b.toList) = decide (a = b) := by
  rw [Bool.eq_iff_iff]
  simp only [beq_iff_eq, decide_eq_true_eq]
  constructor
  · intro h
    have e : ∀ z : ByteArray, z.toList = z.data.toList := fun z => ByteArray.toList_eq z
    rw [e, e] at h
    cases a; cases b; simp_all
  · intro h; rw [h]

theorem q_bin (hT : TabOk C.P T) {op : BinOp} {t u : TypeId} {x y : Operand} (ho : o.op = .binOp op t x y u) {l : Lk k} (h : binX (tlook T t) op (st.ev x) (st.ev y) k l) : ∃ v, OpN C o st v ∧ k v := by
  have key : ∀ v : Value, (∀ g a, TmOk C g st a → ∀ w, ((do eqGuard op t x y (a.eval x) (a.eval y); binOp op t (a.eval x) (a.eval y)) : Sem Value).run C.P w = .ok v w) → OpN C o st (.v v) := fun v hv g a _ hg _ =>
    ⟨v, rfl, fun w => by simp only [execOp, ho]; exact run_v (hv g a hg w)⟩
  unfold binX at h
  split at h
  · rename_i kd a kd' b hx hy
    split at h
    · rename_i hkd; subst hkd
      obtain ⟨v, h1, h2⟩ := ibin_sound h
      refine ⟨_, key v fun g ac hg w => ?_, h2⟩
      have e1 := rel_ev hg x; rw [hx] at e1
      have e2 := rel_ev hg y; rw [hy] at e2
      simp only [rel] at e1 e2
      rw [e1, e2]
      exact h1 C.P t x y w
    · exact h.elim
  · rename_i a b hx hy
    have ee : ∀ g ac, TmOk C g st ac → ac.eval x = .string a ∧ ac.eval y = .string b := fun g ac hg => by
      have e1 := rel_ev hg x; rw [hx] at e1
      have e2 := rel_ev hg y; rw [hy] at e2
      exact ⟨e1, e2⟩
    split at h
    · exact ⟨_, key (.string (a ++ b)) fun g ac hg w => by rw [(ee g ac hg).1, (ee g ac hg).2]; simp [go_sem, binOp, run_string_add_sum w a b h.1], h.2⟩
    · exact ⟨_, key (.bool (decide (a = b))) fun g ac hg w => by rw [(ee g ac hg).1, (ee g ac hg).2]; rw [← bytes_eql]; simp only [eqGuard_at_string, Sem.run_bind, Sem.run_pure, Result.andThen_ok]; rfl, h⟩
    · exact ⟨_, key (.bool (decide (a ≠ b))) fun g ac hg w => by
        rw [(ee g ac hg).1, (ee g ac hg).2]
        have : decide (a ≠ b) = !(a.toList == b.toList) := by rw [bytes_eql]; simp
        rw [this]; simp only [eqGuard_at_string, Sem.run_bind, Sem.run_pure, Result.andThen_ok]; rfl, h⟩
    · exact h.elim
  · rename_i l1 l2 hx hy
    unfold agg2 at h
    split at h
    case h_2 => exact h.elim
    rename_i s0 z0 kd0 n0 hti0
    split at h
    case isFalse hbig =>
      unfold aggS at h
      split at h
      · rename_i as bs h1 h2
        obtain ⟨ha, hb, hk⟩ := h
        have hE := ((hT _ _ hti0).2.2.1 (by simp only; omega)).2 hbig as bs ha hb
        refine ⟨_, key (.bool (decide (as = bs))) fun g ac hg w => ?_, hk⟩
        have e1 := rel_ev hg x; rw [hx] at e1
        have e2 := rel_ev hg y; rw [hy] at e2
        obtain ⟨c1, e1, r1⟩ := e1
        obtain ⟨c2, e2, r2⟩ := e2
        rw [e1, e2, show c1 = (as.map Sc.v).toArray by rw [← rel_rels_scs h1 r1], show c2 = (bs.map Sc.v).toArray by rw [← rel_rels_scs h2 r2]]
        exact (hE w x y).1
      · rename_i as bs h1 h2
        obtain ⟨ha, hb, hk⟩ := h
        have hE := ((hT _ _ hti0).2.2.1 (by simp only; omega)).2 hbig as bs ha hb
        refine ⟨_, key (.bool (decide (as ≠ bs))) fun g ac hg w => ?_, hk⟩
        have e1 := rel_ev hg x; rw [hx] at e1
        have e2 := rel_ev hg y; rw [hy] at e2
        obtain ⟨c1, e1, r1⟩ := e1
        obtain ⟨c2, e2, r2⟩ := e2
        rw [e1, e2, show c1 = (as.map Sc.v).toArray by rw [← rel_rels_scs h1 r1], show c2 = (bs.map Sc.v).toArray by rw [← rel_rels_scs h2 r2]]
        exact (hE w x y).2
      · exact h.elim
    rename_i hsmall
    rw [← hti0] at h
    unfold aggX at h
    split at h
    · rename_i n as bs hti h1 h2
      obtain ⟨hn, ha, hb, hk⟩ := h
      rw [lenN_eq] at ha hb
      have hn0 : n = n0 := by rw [hti0] at hti; cases hti; rfl
      have hE := ((hT _ _ hti).2.2.1 hn).1 (by simp only; omega) as bs ha hb
      refine ⟨_, key (.bool (decide (as = bs))) fun g ac hg w => ?_, hk⟩
      have e1 := rel_ev hg x; rw [hx] at e1
      have e2 := rel_ev hg y; rw [hy] at e2
      obtain ⟨c1, e1, r1⟩ := e1
      obtain ⟨c2, e2, r2⟩ := e2
      rw [e1, e2, show c1 = (as.map (Value.int .i64)).toArray by rw [← rel_rels_ints h1 r1], show c2 = (bs.map (Value.int .i64)).toArray by rw [← rel_rels_ints h2 r2]]
      exact (hE w x y).1
    · rename_i n as bs hti h1 h2
      obtain ⟨hn, ha, hb, hk⟩ := h
      rw [lenN_eq] at ha hb
      have hn0 : n = n0 := by rw [hti0] at hti; cases hti; rfl
      have hE := ((hT _ _ hti).2.2.1 hn).1 (by simp only; omega) as bs ha hb
      refine ⟨_, key (.bool (decide (as ≠ bs))) fun g ac hg w => ?_, hk⟩
      have e1 := rel_ev hg x; rw [hx] at e1
      have e2 := rel_ev hg y; rw [hy] at e2
      obtain ⟨c1, e1, r1⟩ := e1
      obtain ⟨c2, e2, r2⟩ := e2
      rw [e1, e2, show c1 = (as.map (Value.int .i64)).toArray by rw [← rel_rels_ints h1 r1], show c2 = (bs.map (Value.int .i64)).toArray by rw [← rel_rels_ints h2 r2]]
      exact (hE w x y).2
    · exact h.elim
  · exact h.elim

theorem q_sli (hT : TabOk C.P T) {t : TypeId} {x : Operand} {lo hi : Option Operand} (ho : o.op = .slice t x lo hi none) {l : Lk k} (h : sliX (tlook T t) (st.ev x) (lo.map st.ev) (hi.map st.ev) k l) : ∃ v, OpN C o st v ∧ k v := by
  have key : ∀ (v : SV), (∀ g a, TmOk C g st a → ∃ u, rel g v u ∧ ∀ w, (Instr.sliceAt t (a.eval x) (lo.map a.eval) (hi.map a.eval) none).run C.P w = .ok u w) → OpN C o st v := fun v hv g a _ hg _ => by
    obtain ⟨u, h1, h2⟩ := hv g a hg
    exact ⟨u, h1, fun w => by simp only [execOp, ho, Option.map_none]; exact run_v (h2 w)⟩
  have keyV : ∀ (u : Value), (∀ g a, TmOk C g st a → ∀ w, (Instr.sliceAt t (a.eval x) (lo.map a.eval) (hi.map a.eval) none).run C.P w = .ok u w) → OpN C o st (.v u) := fun u hu => key (.v u) fun g a hg => ⟨u, rfl, hu g a hg⟩
  have opt : ∀ {y : Option Operand} {kd : IntKind} {n : Int}, y.map st.ev = some (.v (.int kd n)) → ∀ g a, TmOk C g st a → y.map a.eval = some (.int kd n) := fun {y kd n} hy g a hg => by
    cases y with
    | none => cases hy
    | some y =>
      simp only [Option.map_some, Option.some.injEq] at hy ⊢
      have e := rel_ev hg y; rw [hy] at e; exact e
  have opn : ∀ {y : Option Operand}, y.map st.ev = none → ∀ a : Act, y.map a.eval = none := fun {y} hy a => by
    cases y with
    | none => rfl
    | some y => cases hy
  have slc : ∀ {s z e es eb ez m}, tlook T t = some ⟨s, z, .sl e es eb ez, m⟩ → C.P.underlying t = some (.slice (C.P.elem t)) ∧ ∀ w, (sizeOf (C.P.elem t)).run C.P w = .ok es w := fun {s z e es eb ez m} hti => by
    obtain ⟨_, ⟨hu, ii, hii, hsz, _⟩, _⟩ := hT _ _ hti
    have he : C.P.elem t = e := by simp [Program.elem, hu]
    rw [he]
    exact ⟨hu, fun w => by simp [sizeOf, typeInfo, hii, hsz]⟩
  -- a part of data
  have part : ∀ {g : Gh} {b : Bool} {sz : Nat} {els : List (List D)} {A : Option Addr} {c : Nat} (l n : Nat), RdE g.μ els b A sz 0 → els.length ≤ c → l + n ≤ els.length → rel g (.sl b sz ((els.drop l).take n)) (.slice (if c = l then A else A.map (·.add (l * sz))) n (c - l)) := fun {g b sz els A c} l n hE hc hn => by
    simp only [rel, Rd]
    have hlen : ((els.drop l).take n).length = n := by simp; omega
    refine ⟨_, _, by rw [hlen], by rw [hlen]; omega, RdE.take n ?_⟩
    have h1 := RdE.drop l hE
    by_cases hcl : c = l
    · rw [if_pos hcl, List.drop_eq_nil_of_le (by omega)]; simp [RdE]
    · rw [if_neg hcl]
      cases A with
      | none =>
        cases els with
        | nil => simp [RdE]
        | cons e els => simp only [RdE] at hE; obtain ⟨⟨_, ad, hA, _⟩, _⟩ := hE; cases hA
      | some ad => exact RdE.shift h1
  unfold sliX at h
  split at h
  · rename_i z q e es eb ez m b sz els kd l hti hx hlo hhi
    split at h
    · rename_i hs; subst hs
      obtain ⟨⟨h1, h2⟩, hk⟩ := h
      obtain ⟨hu, hz⟩ := slc hti
      refine ⟨_, key _ fun g a hg => ?_, hk⟩
      have e1 := rel_ev hg x; rw [hx] at e1; simp only [rel, Rd] at e1
      obtain ⟨A, c, e1, hc, hE⟩ := e1
      have hp := part l.toNat (els.length - l.toNat) hE hc (by omega)
      rw [List.take_of_length_le (by simp)] at hp
      refine ⟨_, hp, fun w => ?_⟩
      rw [e1, opt hlo g a hg, opn hhi a, run_sliceAt_slice _ _ _ _ _ _ hu, run_slice_l _ _ _ _ _ hu _ _ h1 h2, hz]
      rfl
    · exact h.elim
  · rename_i z q e es eb ez m b sz els kd hh hti hx hlo hhi
    split at h
    · rename_i hs; subst hs
      obtain ⟨⟨h1, h2⟩, hk⟩ := h
      obtain ⟨hu, hz⟩ := slc hti
      refine ⟨_, key _ fun g a hg => ?_, hk⟩
      have e1 := rel_ev hg x; rw [hx] at e1; simp only [rel, Rd] at e1
      obtain ⟨A, c, e1, hc, hE⟩ := e1
      have hp := part 0 hh.toNat hE hc (by omega)
      rw [List.drop_zero] at hp
      refine ⟨_, hp, fun w => ?_⟩
      rw [e1, opn hlo a, opt hhi g a hg, run_sliceAt_slice _ _ _ _ _ _ hu, run_slice_h _ _ _ _ _ hu _ _ h1 (by omega), hz]
      rfl
    · exact h.elim
  · rename_i z q e es eb ez m b sz els kd l kd2 hh hti hx hlo hhi
    split at h
    · rename_i hs; subst hs
      obtain ⟨⟨h1, h2, h3⟩, hk⟩ := h
      obtain ⟨hu, hz⟩ := slc hti
      refine ⟨_, key _ fun g a hg => ?_, hk⟩
      have e1 := rel_ev hg x; rw [hx] at e1; simp only [rel, Rd] at e1
      obtain ⟨A, c, e1, hc, hE⟩ := e1
      have hp := part l.toNat (hh.toNat - l.toNat) hE hc (by omega)
      refine ⟨_, hp, fun w => ?_⟩
      rw [e1, opt hlo g a hg, opt hhi g a hg, run_sliceAt_slice _ _ _ _ _ _ hu, run_slice_lh _ _ _ _ _ hu _ _ _ _ h1 h2 (by omega), hz]
      rfl
    · exact h.elim
  · rename_i z q e es eb ez m kd l hti hx hlo hhi
    obtain ⟨⟨h1, h2⟩, hk⟩ := h
    obtain ⟨hu, hz⟩ := slc hti
    refine ⟨_, keyV _ fun g a hg w => ?_, hk⟩
    have e1 := rel_ev hg x; rw [hx] at e1; simp only [rel] at e1
    have h0 : l = 0 := by omega
    subst h0
    rw [e1, opt hlo g a hg, opn hhi a, run_sliceAt_slice _ _ _ _ _ _ hu, run_slice_l _ _ _ _ _ hu _ _ h1 (by simp), hz]
    rfl
  · rename_i z q e es eb ez m kd l hti hx hlo hhi
    obtain ⟨⟨h1, h2⟩, hk⟩ := h
    obtain ⟨hu, hz⟩ := slc hti
    refine ⟨_, keyV _ fun g a hg w => ?_, hk⟩
    have e1 := rel_ev hg x; rw [hx] at e1; simp only [rel] at e1
    have h0 : l = 0 := by omega
    subst h0
    rw [e1, opn hlo a, opt hhi g a hg, run_sliceAt_slice _ _ _ _ _ _ hu, run_slice_h _ _ _ _ _ hu _ _ h1 (by simp), hz]
    rfl
  · rename_i z q e es eb ez m kd l kd2 l2 hti hx hlo hhi
    obtain ⟨⟨h1, h2, h3⟩, hk⟩ := h
    obtain ⟨hu, hz⟩ := slc hti
    refine ⟨_, keyV _ fun g a hg w => ?_, hk⟩
    have e1 := rel_ev hg x; rw [hx] at e1; simp only [rel] at e1
    have h0 : l = 0 := by omega
    have h0' : l2 = 0 := by omega
    subst h0 h0'
    rw [e1, opt hlo g a hg, opt hhi g a hg, run_sliceAt_slice _ _ _ _ _ _ hu, run_slice_lh _ _ _ _ _ hu _ _ _ _ h1 h2 (by simp), hz]
    rfl
  · rename_i hti hx hlo hhi
    obtain ⟨⟨h1, h2⟩, hk⟩ := h
    have hu : C.P.underlying t = some .string := (hT _ _ hti).2.1
    refine ⟨_, keyV _ fun g a hg w => ?_, hk⟩
    have e1 := rel_ev hg x; rw [hx] at e1; simp only [rel] at e1
    rw [e1, opt hlo g a hg, opn hhi a, run_sliceAt_string _ _ _ _ _ _ hu]
    simp [Instr.slice, run_underlying hu, Instr.sliceBounds, run_sliceBound, h1, h2]
  · rename_i hti hx hlo hhi
    obtain ⟨⟨h1, h2⟩, hk⟩ := h
    have hu : C.P.underlying t = some .string := (hT _ _ hti).2.1
    refine ⟨_, keyV _ fun g a hg w => ?_, hk⟩
    have e1 := rel_ev hg x; rw [hx] at e1; simp only [rel] at e1
    rw [e1, opn hlo a, opt hhi g a hg, run_sliceAt_string _ _ _ _ _ _ hu]
    simp [Instr.slice, run_underlying hu, Instr.sliceBounds, run_sliceBound, h1, h2]
  · rename_i hti hx hlo hhi
    obtain ⟨⟨h1, h2, h3⟩, hk⟩ := h
    have hu : C.P.underlying t = some .string := (hT _ _ hti).2.1
    refine ⟨_, keyV _ fun g a hg w => ?_, hk⟩
    have e1 := rel_ev hg x; rw [hx] at e1; simp only [rel] at e1
    rw [e1, opt hlo g a hg, opt hhi g a hg, run_sliceAt_string _ _ _ _ _ _ hu]
    simp [Instr.slice, run_underlying hu, Instr.sliceBounds, run_sliceBound, h1, h2, h3, Int.toNat_of_nonneg (Int.le_trans h1 h2), Int.le_trans h1 h2]
  · exact h.elim

theorem q_tc (hT : TabOk C.P T) {t : TypeId} {x hh mm : Operand} (ho : o.op = .slice t x none (some hh) (some mm)) {l : Lk k} (h : tcQ (tlook T t) (st.ev x) (st.ev hh) (st.ev mm) k l) : ∃ v, OpN C o st v ∧ k v := by
  unfold tcQ at h
  split at h
  · rename_i z q e es eb ez m b sz els kd n kd2 n2 hti hx hhi hmi
    split at h
    · rename_i hs; subst hs
      obtain ⟨⟨h0, h1, h2⟩, hk⟩ := h
      obtain ⟨_, ⟨hu0, ii, hii, hsz, _⟩, _⟩ := hT _ _ hti
      have he : C.P.elem t = e := by simp [Program.elem, hu0]
      have hu : C.P.underlying t = some (.slice (C.P.elem t)) := by rw [he]; exact hu0
      refine ⟨_, fun g a _ hg _ => ?_, hk⟩
      have e1 := rel_ev hg x; rw [hx] at e1; simp only [rel, Rd] at e1
      have e2 := rel_ev hg hh; rw [hhi] at e2; simp only [rel] at e2
      have e3 := rel_ev hg mm; rw [hmi] at e3; simp only [rel] at e3
      obtain ⟨A, c, e1, hc, hE⟩ := e1
      have hz : ∀ w, (sizeOf (C.P.elem t)).run C.P w = .ok sz w := fun w => by rw [he]; simp [sizeOf, typeInfo, hii, hsz]
      refine ⟨.slice (if n.toNat = 0 then A else A.map (·.add (0 * sz))) n.toNat n.toNat, ?_, fun w => ?_⟩
      · have hlen : (els.take n.toNat).length = n.toNat := by simp; omega
        simp only [rel, Rd]
        refine ⟨⟨_, n.toNat, by rw [hlen], by rw [hlen]; omega, ?_⟩, _, _, rfl⟩
        have h1' := RdE.drop 0 hE
        by_cases hn0 : n.toNat = 0
        · rw [hn0]; simp [RdE]
        · rw [if_neg hn0]
          refine RdE.take n.toNat ?_
          cases A with
          | none =>
            cases els with
            | nil => simp [RdE]
            | cons e els => simp only [RdE] at hE; obtain ⟨⟨_, ad, hA, _⟩, _⟩ := hE; cases hA
          | some ad => exact RdE.shift h1'
      · simp only [execOp, ho, Option.map_none, Option.map_some]
        refine run_v ?_
        rw [e1, e2, e3, h0, run_sliceAt_slice _ _ _ _ _ _ hu, run_slice_hm _ _ _ _ _ hu _ _ _ _ h1 (Int.le_refl _) (by omega), hz]
        rfl
    · exact h.elim
  · exact h.elim

theorem rel_part {g : Gh} {b : Bool} {sz : Nat} {els : List (List D)} {A : Option Addr} {m : Nat} (l n : Nat) (hE : RdE g.μ els b A sz 0) (hm : m ≤ els.length) (hn : l + n ≤ m) : rel g (.sl b sz ((els.drop l).take n)) (.slice (if m = l then A else A.map (·.add (l * sz))) n (m - l)) := by
  simp only [rel, Rd]
  have hlen : ((els.drop l).take n).length = n := by simp; omega
  refine ⟨_, _, by rw [hlen], by rw [hlen]; omega, ?_⟩
  by_cases hml : m = l
  · have h0 : n = 0 := by omega
    subst h0
    simp [RdE]
  · rw [if_neg hml]
    refine RdE.take n ?_
    have h1 := RdE.drop l hE
    cases A with
    | none =>
      cases els with
      | nil => simp [RdE]
      | cons e els => simp only [RdE] at hE; obtain ⟨⟨_, ad, hA, _⟩, _⟩ := hE; cases hA
    | some ad => exact RdE.shift h1
theorem q_tc4 (hT : TabOk C.P T) {t : TypeId} {x ll hh mm : Operand} (ho : o.op = .slice t x (some ll) (some hh) (some mm)) {l : Lk k} (h : tc4 (tlook T t) (st.ev x) (st.ev ll) (st.ev hh) (st.ev mm) k l) : ∃ v, OpN C o st v ∧ k v := by
  unfold tc4 at h
  split at h
  · rename_i z q e es eb ez m b sz els kd0 lo kd n kd2 n2 hti hx hli hhi hmi
    split at h
    · rename_i hs; subst hs
      obtain ⟨⟨h0, h1, h2, h3⟩, hk⟩ := h
      obtain ⟨_, ⟨hu0, ii, hii, hsz, _⟩, _⟩ := hT _ _ hti
      have he : C.P.elem t = e := by simp [Program.elem, hu0]
      have hu : C.P.underlying t = some (.slice (C.P.elem t)) := by rw [he]; exact hu0
      refine ⟨_, fun g a _ hg _ => ?_, hk⟩
      have e1 := rel_ev hg x; rw [hx] at e1; simp only [rel, Rd] at e1
      have e0 := rel_ev hg ll; rw [hli] at e0; simp only [rel] at e0
      have e2 := rel_ev hg hh; rw [hhi] at e2; simp only [rel] at e2
      have e3 := rel_ev hg mm; rw [hmi] at e3; simp only [rel] at e3
      obtain ⟨A, c, e1, hc, hE⟩ := e1
      have hz : ∀ w, (sizeOf (C.P.elem t)).run C.P w = .ok sz w := fun w => by rw [he]; simp [sizeOf, typeInfo, hii, hsz]
      refine ⟨_, rel_part (m := n2.toNat) lo.toNat (n.toNat - lo.toNat) hE (by omega) (by omega), fun w => ?_⟩
      simp only [execOp, ho, Option.map_some]
      refine run_v ?_
      rw [e1, e0, e2, e3, run_sliceAt_slice _ _ _ _ _ _ hu, run_slice_lhm _ _ _ _ _ hu _ _ _ _ _ _ h0 h1 h2 (by omega), hz]
      rfl
    · exact h.elim
  · exact h.elim

theorem q_un {op : UnOp} {t : TypeId} {x : Operand} (ho : o.op = .unOp op t x) {l : Lk k} (h : unX op (st.ev x) k l) : ∃ v, OpN C o st v ∧ k v := by
  have key : ∀ (v : SV) (u : Value), (∀ g, rel g v u) → (∀ g a, TmOk C g st a → ∀ w, (Op.unary op (a.eval x)).run C.P w = .ok u w) → OpN C o st v := fun v u hr hv g a _ hg _ =>
    ⟨u, hr g, fun w => by simp only [execOp, ho]; exact run_v (hv g a hg w)⟩
  unfold unX at h
  split at h
  · rename_i b hx
    exact ⟨_, key (.v (.bool !b)) (.bool !b) (fun _ => rfl) fun g a hg w => by have e := rel_ev hg x; rw [hx] at e; simp only [rel] at e; rw [e]; rfl, h⟩
  · rename_i kd n hx
    exact ⟨_, key (.v (.int kd (-n))) (.int kd (-n)) (fun _ => rfl) fun g a hg w => by have e := rel_ev hg x; rw [hx] at e; simp only [rel] at e; rw [e]; simp [Op.unary, Op.intArith, h.1.wrap], h.2⟩
  · exact h.elim

theorem q_conv (hT : TabOk C.P T) {s d : TypeId} {x : Operand} (ho : o.op = .convert s d x) {l : Lk k} (h : convX (tlook T s) (tlook T d) (st.ev x) k l) : ∃ v, OpN C o st v ∧ k v := by
  have key : ∀ (u : Value), (∀ g a, TmOk C g st a → ∀ w, (convert s d (a.eval x)).run C.P w = .ok u w) → OpN C o st (.v u) := fun u hv g a _ hg _ =>
    ⟨u, rfl, fun w => by simp only [execOp, ho]; exact run_v (hv g a hg w)⟩
  unfold convX at h
  split at h
  · rename_i ti z q kd e j n hs hd hx
    obtain ⟨⟨i, hi, _⟩, hk, _⟩ := hT _ _ hd
    have hsu : ∃ ds, C.P.underlying s = some ds := by
      obtain ⟨_, hk, _⟩ := hT _ _ hs
      cases hh : ti.kd <;> rw [hh] at hk <;> simp only [KdOk] at hk
      · obtain ⟨d, h, _⟩ := hk; exact ⟨_, h⟩
      · exact ⟨_, hk⟩
      · exact ⟨_, hk⟩
      · obtain ⟨_, h, _⟩ := hk; exact ⟨_, h⟩
      · exact ⟨_, hk.1⟩
      · exact ⟨_, hk.1⟩
      · obtain ⟨_, _, h, _⟩ := hk; exact ⟨_, h⟩
      · obtain ⟨_, h⟩ := hk; exact ⟨_, h⟩
    obtain ⟨ds, hs'⟩ := hsu
    refine ⟨_, key (.int kd n) fun g a hg w => ?_, h.2⟩
    have e := rel_ev hg x; rw [hx] at e; simp only [rel] at e; rw [e]
    have hk' : C.P.underlying d = some (.int kd) := hk
    simp [convert, run_underlying hs', run_underlying hk', Conv.intToInt, h.1.wrap]
  · rename_i a b c d' e f z hs hd hx
    have h1 : C.P.underlying s = some .string := (hT _ _ hs).2.1
    have h2 : C.P.underlying d = some .string := (hT _ _ hd).2.1
    refine ⟨_, key (.string z) fun g a hg w => ?_, h⟩
    have e := rel_ev hg x; rw [hx] at e; simp only [rel] at e; rw [e]
    simp [convert, run_underlying h1, run_underlying h2]
  · rename_i ti z' q' e' j n hs hd hx
    have h2 : C.P.underlying d = some .string := (hT _ _ hd).2.1
    have hsu : ∃ ds, C.P.underlying s = some ds := by
      obtain ⟨_, hk, _⟩ := hT _ _ hs
      cases hh : ti.kd <;> rw [hh] at hk <;> simp only [KdOk] at hk
      · obtain ⟨d, h, _⟩ := hk; exact ⟨_, h⟩
      · exact ⟨_, hk⟩
      · exact ⟨_, hk⟩
      · obtain ⟨_, h, _⟩ := hk; exact ⟨_, h⟩
      · exact ⟨_, hk.1⟩
      · exact ⟨_, hk.1⟩
      · obtain ⟨_, _, h, _⟩ := hk; exact ⟨_, h⟩
      · obtain ⟨_, h⟩ := hk; exact ⟨_, h⟩
    obtain ⟨ds, hs'⟩ := hsu
    refine ⟨_, key (.string (Utf8.encode n)) fun g a hg w => ?_, h⟩
    have e := rel_ev hg x; rw [hx] at e; simp only [rel] at e; rw [e]
    cases ds <;> simp [convert, run_underlying hs', run_underlying h2, Conv.intToString]
  · exact h.elim

theorem rel_addOff {g : Gh} {x : SV} {u : Value} {n : Nat} (hr : rel g x u) (hx : addOff x n ≠ .any) : ∃ a, u = .pointer (some a) ∧ rel g (addOff x n) (.pointer (some (a.add n))) := by
  cases x <;> (try (exact absurd rfl hx))
  case box b o => exact ⟨_, hr.1, by rw [Addr.add_lit], hr.2⟩
  case pt b cs =>
    simp only [rel, Rd] at hr
    obtain ⟨a, rfl, hC⟩ := hr
    refine ⟨a, rfl, ?_⟩
    simp only [addOff, rel, Rd]
    refine ⟨_, rfl, ?_⟩
    rw [dropN_eq]
    exact RdC.shift (RdC.drop n hC)
  case relt r i s off =>
    obtain ⟨b, hA, rfl, hk⟩ := hr
    exact ⟨_, rfl, b, hA, by rw [Addr.add_lit, Nat.add_assoc], hk⟩
  case v y =>
    cases y <;> (try (exact absurd rfl hx))
    rename_i p
    cases p <;> (try (exact absurd rfl hx))
    simp only [rel] at hr
    exact ⟨_, hr, rfl⟩

theorem q_fa (hT : TabOk C.P T) {t : TypeId} {x : Operand} {f : Nat} (ho : o.op = .fieldAddr t x f) {l : Lk k} (h : faX (tlook T t) (st.ev x) f k l) : ∃ v, OpN C o st v ∧ k v := by
  unfold faX at h
  split at h
  · rename_i z q fs e hti
    unfold fa2 at h
    split at h
    · rename_i off sz hf
      rw [nth_eq] at hf
      obtain ⟨_, ⟨fl, hu, _, hfl⟩, _⟩ := hT _ _ hti
      obtain ⟨fd, h1, h2, j, h3, h4, h5⟩ := hfl _ _ _ hf
      have hne : addOff (st.ev x) off ≠ .any ∧ k (addOff (st.ev x) off) := by
        unfold faP at h
        split at h <;> first | (rename_i e; rw [e]; exact ⟨by simp, h⟩) | exact h.elim
      refine ⟨_, fun g a _ hg _ => ?_, hne.2⟩
      obtain ⟨p, e, hr⟩ := rel_addOff (rel_ev hg x) hne.1
      refine ⟨_, hr, fun w => ?_⟩
      simp only [execOp, ho, e]
      apply run_v
      simp [Instr.fieldAt, run_underlying hu, h1, Instr.sureAddr, fieldPlace, sizeOf, typeInfo, h3, h4, h5, h2]
    · exact h.elim
  · exact h.elim

theorem q_ia (hT : TabOk C.P T) {t : TypeId} {x i : Operand} (ho : o.op = .indexAddr t x i) {l : Lk (st.rw, k)} (h : iaX (tlook T t) st.rw (st.ev x) (st.ev i) k l) : ∃ v, OpN C o st v ∧ k v := by
  unfold iaX at h
  split at h
  · rename_i z q e es eb ez m b sz els kd j hti hx hi
    split at h
    · rename_i hs; subst hs
      obtain ⟨h0, el, hel, hk⟩ := h
      obtain ⟨_, ⟨hu, ii, hii, hsz, _⟩, _⟩ := hT _ _ hti
      have hlt : j.toNat < els.length := (List.getElem?_eq_some_iff.1 hel).1
      refine ⟨.pt b el, fun g a _ hg _ => ?_, hk⟩
      have e1 := rel_ev hg x; rw [hx] at e1; simp only [rel, Rd] at e1
      obtain ⟨A, c, e1, hc, hE⟩ := e1
      obtain ⟨_, ad, rfl, hC⟩ := hE.get _ _ hel
      have e2 := rel_ev hg i; rw [hi] at e2; simp only [rel] at e2
      refine ⟨.pointer (some (ad.add (j.toNat * sz))), ?_, fun w => ?_⟩
      · simp only [rel, Rd]; exact ⟨_, rfl, by rw [Nat.zero_add] at hC; exact hC⟩
      simp only [execOp, ho, e1, e2]
      apply run_v
      simp [Instr.indexAt, asIntOf, run_underlying hu, h0, show j < (els.length : Int) by omega, sizeOf, typeInfo, hii, hsz]
    · exact h.elim
  · rename_i z q e es eb ez m r kd j hti hx hi
    unfold iaR at h
    split at h
    · rename_i e' s' els hr
      rw [nth_eq] at hr
      split at h
      rotate_left
      · exact h.elim
      rename_i hse
      obtain ⟨⟨h0, h1⟩, hk⟩ := h
      obtain ⟨_, ⟨hu, ii, hii, hsz, _, hes, _⟩, _⟩ := hT _ _ hti
      refine ⟨.relt r j es 0, fun g a w0 hg hw0 => ?_, hk⟩
      have e1 := rel_ev hg x; rw [hx] at e1; simp only [rel] at e1
      have e2 := rel_ev hg i; rw [hi] at e2; simp only [rel] at e2
      obtain ⟨hrow, _⟩ := hw0.row _ _ _ _ hr
      obtain ⟨_, vss, hown, _, hvl⟩ := hrow.tab (by omega)
      have hvl := hvl.len
      rcases hown.2 with ⟨_, h2⟩ | ⟨gg, cap, cur, hv, _⟩
      · omega
      · refine ⟨.pointer (some ⟨gg, j.toNat * es + 0, none⟩), ⟨gg, by rw [hv]; rfl, rfl, e1.2.2, hes⟩, fun w => ?_⟩
        simp only [execOp, ho, e1.1, e2]
        apply run_v
        rw [hv]
        simp [Instr.indexAt, asIntOf, run_underlying hu, h0, h1, sizeOf, typeInfo, hii, hsz, Addr.add_lit, hvl]
    · exact h.elim
  · rename_i z q n e es m b off kd j hti hx hi
    obtain ⟨⟨h0, h1⟩, hk⟩ := h
    obtain ⟨_, ⟨hu, ii, hii, hsz⟩, _⟩ := hT _ _ hti
    refine ⟨.box b (off + j.toNat * es), fun g a _ hg _ => ?_, hk⟩
    have e1 := rel_ev hg x; rw [hx] at e1; simp only [rel] at e1
    refine ⟨_, ⟨rfl, e1.2⟩, fun w => ?_⟩
    replace e1 := e1.1
    have e2 := rel_ev hg i; rw [hi] at e2; simp only [rel] at e2
    simp only [execOp, ho, e1, e2]
    apply run_v
    simp [Instr.indexAt, asIntOf, run_underlying hu, h0, h1, sizeOf, typeInfo, hii, hsz, Instr.sureAddr, Addr.add_lit]
  · rename_i z q n e es m b cs kd j hti hx hi
    obtain ⟨⟨h0, h1⟩, hk⟩ := h
    obtain ⟨_, ⟨hu, ii, hii, hsz⟩, _⟩ := hT _ _ hti
    refine ⟨_, fun g a _ hg _ => ?_, hk⟩
    have e1 := rel_ev hg x; rw [hx] at e1
    obtain ⟨ad, e1, hr⟩ := rel_addOff (n := j.toNat * es) e1 (by simp [addOff])
    refine ⟨_, hr, fun w => ?_⟩
    have e2 := rel_ev hg i; rw [hi] at e2; simp only [rel] at e2
    simp only [execOp, ho, e1, e2]
    apply run_v
    simp [Instr.indexAt, asIntOf, run_underlying hu, h0, h1, sizeOf, typeInfo, hii, hsz, Instr.sureAddr]
  · exact h.elim

theorem rels_dropN {g : Gh} {l : List SV} {us : List Value} (n : Nat) (h : rels g l us) : rels g (dropN n l) (us.drop n) := by
  rw [dropN_eq]; exact rels_drop n h

theorem isAgg_run {P : Program} {t : TypeId} {ti : TI} (hti : TIok P t ti) (w : World) : (isAgg t).run P w = .ok ti.kd.agg w := by
  obtain ⟨_, hk, _, _⟩ := hti
  cases hh : ti.kd <;> rw [hh] at hk <;> simp only [KdOk] at hk
  · obtain ⟨d, h, h2, h3, _⟩ := hk
    simp only [isAgg, Sem.run_bind, run_underlying h, Result.andThen_ok]
    cases d <;> first | rfl | exact absurd rfl (h2 _) | exact absurd rfl (h3 _ _)
  · simp [isAgg, run_underlying hk, Kd.agg]
  · simp [isAgg, run_underlying hk, Kd.agg]
  · obtain ⟨fl, h, _⟩ := hk; simp [isAgg, run_underlying h, Kd.agg]
  · simp [isAgg, run_underlying hk.1, Kd.agg]
  · simp [isAgg, run_underlying hk.1, Kd.agg]
  · obtain ⟨_, _, h, _⟩ := hk; simp [isAgg, run_underlying h, Kd.agg]
  · obtain ⟨_, h⟩ := hk; simp [isAgg, run_underlying h, Kd.agg]
theorem loadAt_run {P : Program} {t : TypeId} {ti : TI} (hti : TIok P t ti) {a : Addr} {cs : List Value} (hlen : cs.length = ti.size) {w : World} (hc : ∀ j u, cs[j]? = some u → w.cell? (a.add j) = some u) (h1 : ti.kd.agg = false → ti.size = 1) :
    (Instr.loadAt t (.pointer (some a))).run P w = .ok (if ti.kd.agg then .agg cs.toArray else cs.headD undef) w := by
  obtain ⟨⟨i, hi, hsz, _⟩, hk, _, _⟩ := hti
  have hagg : (isAgg t).run P w = .ok ti.kd.agg w := by
    cases hh : ti.kd <;> rw [hh] at hk <;> simp only [KdOk] at hk
    · obtain ⟨d, h, h2, h3, _⟩ := hk
      simp only [isAgg, Sem.run_bind, run_underlying h, Result.andThen_ok]
      cases d <;> first | rfl | exact absurd rfl (h2 _) | exact absurd rfl (h3 _ _)
    · simp [isAgg, run_underlying hk, Kd.agg]
    · simp [isAgg, run_underlying hk, Kd.agg]
    · obtain ⟨fl, h, _⟩ := hk; simp [isAgg, run_underlying h, Kd.agg]
    · simp [isAgg, run_underlying hk.1, Kd.agg]
    · simp [isAgg, run_underlying hk.1, Kd.agg]
    · obtain ⟨_, _, h, _⟩ := hk; simp [isAgg, run_underlying h, Kd.agg]
    · obtain ⟨_, h⟩ := hk; simp [isAgg, run_underlying h, Kd.agg]
  simp only [Instr.loadAt, Instr.sureAddr, loadVar, Sem.run_bind, Sem.run_pure, Result.andThen_ok, hagg]
  cases hb : ti.kd.agg
  · have := h1 hb
    match cs, hlen with
    | [c], _ =>
      have hc0 := hc 0 c rfl
      simp [go_sem] at hc0 ⊢
      simp [hc0]
    | [], e => simp at e; omega
    | _ :: _ :: _, e => simp at e; omega
  · have hrun := run_loadCells_list (P := P) (w := w) a cs hc
    simp [sizeOf, typeInfo, hi, hsz, ← hlen, hrun]

theorem cells_at {w : World} {b : Nat} {cs : Array Value} {ty : TypeId} {fr : Nat × Nat} (h : w.heap[b]? = some (.cells cs ty fr)) {off : Nat} {us : List Value} (hu : us = (cs.toList.drop off).take us.length) :
    ∀ j u, us[j]? = some u → w.cell? ((⟨b, off, none⟩ : Addr).add j) = some u := by
  intro j u hj
  rw [Addr.add_lit]
  simp only [World.cell?, h]
  rw [hu] at hj
  rw [List.getElem?_take] at hj
  split at hj
  · rw [List.getElem?_drop] at hj
    simpa using hj
  · cases hj

theorem flat_get {size : Nat} {e : List Value} {u : Value} {j : Nat} (hj : e[j]? = some u) (hj' : j < size) : ∀ (els : List (List Value)) (i : Nat), (∀ e ∈ els, e.length = size) → els[i]? = some e → els.flatten[i * size + j]? = some u
  | [], i, _, hi => by simp at hi
  | x :: els, i, hl, hi => by
    have hx := hl x (by simp)
    cases i with
    | zero => simp at hi; subst hi; simp only [List.flatten_cons, Nat.zero_mul, Nat.zero_add]; rw [List.getElem?_append_left (by omega)]; exact hj
    | succ i =>
      simp only [List.flatten_cons]
      rw [List.getElem?_append_right (by rw [Nat.succ_mul]; omega), show (i + 1) * size + j - x.length = i * size + j by rw [Nat.succ_mul]; omega]
      exact flat_get hj hj' els i (fun e he => hl e (by simp [he])) (by simpa using hi)

theorem q_load (hT : TabOk C.P T) {t : TypeId} {x : Operand} (ho : o.op = .load t x) {l : Lk (st, k)} (h : loadX (tlook T t) (st.ev x) st k l) : ∃ v, OpQ C o st v ∧ k v := by
  have hfp : fpOf st o.op = fpV (st.ev x) := by rw [ho]; rfl
  unfold loadX at h
  split at h
  · rename_i ti b off hti hx
    have hti := hT _ _ hti
    have hfp : fpOf st o.op = .box b := by rw [hfp, hx]; rfl
    have key : ∀ cs, bcells st.bx b off ti.size = some cs → (ti.kd.agg = false → ti.size = 1) → ∀ g a w0, TmOk C g st a → Mem C g st w0 → ∃ us, rels g cs us ∧ us.length = ti.size ∧ FpOk g (.box b) (g.ρ b) ∧ g.ρ b < w0.heap.size ∧
        ∀ w, w.heap[g.ρ b]? = w0.heap[g.ρ b]? → (Instr.loadAt t (a.eval x)).run C.P w = .ok (if ti.kd.agg then .agg us.toArray else us.headD undef) w := by
      intro cs hcs h1 g a w0 hg hw0
      unfold bcells bc2 at hcs
      rw [nth_eq] at hcs
      split at hcs
      · rename_i bx hbx
        obtain ⟨hlen, hl2⟩ := takeN_eq _ _ _ hcs
        obtain ⟨_, cells, hcell, hrel⟩ := hw0.box _ _ hbx
        have e := rel_ev hg x; rw [hx] at e; simp only [rel] at e
        obtain ⟨e, hlt⟩ := e
        have hr2 : rels g cs ((cells.toList.drop off).take ti.size) := by
          rw [hlen, dropN_eq]; exact rels_take _ (rels_drop _ hrel)
        have hl3 : ((cells.toList.drop off).take ti.size).length = ti.size := by rw [rels_length hr2, hl2]
        refine ⟨_, hr2, hl3, ⟨rfl, hlt⟩, (Array.getElem?_eq_some_iff.1 hcell).1, fun w hs => ?_⟩
        rw [e]
        have hcw : w.heap[g.ρ b]? = some (.cells cells bx.ty (0, 0)) := hs.trans hcell
        exact loadAt_run hti hl3 (cells_at hcw (by rw [hl3])) h1
      · cases hcs
    unfold loadB at h
    split at h
    · rename_i cs hagg hcs
      refine ⟨_, fun g a w0 hg hw0 => ?_, h⟩
      obtain ⟨us, hr, _, hF, hlt, hrun⟩ := key cs hcs (by simp [hagg]) g a w0 hg hw0
      exact ⟨.agg us.toArray, g.ρ b, ⟨_, rfl, by simpa using hr⟩, by rw [hfp]; exact hF, fun _ => hlt, fun w hs => by simp only [execOp, ho]; have := hrun w (hs (by rw [hfp]; simp)); rw [hagg] at this; exact run_v this⟩
    · rename_i c hagg hcs
      obtain ⟨h1, hk⟩ := h
      refine ⟨_, fun g a w0 hg hw0 => ?_, hk⟩
      obtain ⟨us, hr, hl, hF, hlt, hrun⟩ := key _ hcs (fun _ => h1) g a w0 hg hw0
      match us, hr with
      | [u], hr =>
        exact ⟨u, g.ρ b, rel_norm hg hr.1, by rw [hfp]; exact hF, fun _ => hlt, fun w hs => by simp only [execOp, ho]; have := hrun w (hs (by rw [hfp]; simp)); rw [hagg] at this; exact run_v this⟩
    · exact h.elim
  · rename_i ti b cells hti hx
    have hti := hT _ _ hti
    have hfp : fpOf st o.op = .imm := by rw [hfp, hx]; rfl
    have key : ∀ (c : D) (cs : List D), takeN ti.size cells = some (c :: cs) → ∀ g a w0, TmOk C g st a → Mem C g st w0 → ∃ us B, RdL g.μ (c :: cs) us ∧ FpOk g .imm B ∧ B < w0.heap.size ∧
        ∀ w, w.heap[B]? = w0.heap[B]? → (Instr.loadAt t (a.eval x)).run C.P w = .ok (if ti.kd.agg then .agg us.toArray else us.headD undef) w := by
      intro c cs hcs g a w0 hg hw0
      obtain ⟨hlen, hl2⟩ := takeN_eq _ _ _ hcs
      have e := rel_ev hg x; rw [hx] at e; simp only [rel, Rd] at e
      obtain ⟨ad, e, hC⟩ := e
      obtain ⟨us, hus, hcell⟩ := hC.vals
      have hus2 := hus.take ti.size
      rw [← hlen] at hus2
      have hl3 : (us.take ti.size).length = ti.size := by rw [hus2.len, hl2]
      have hin : ∀ (j : Nat) (u : Value), (us.take ti.size)[j]? = some u → (g.μ b).cell (ad.add j) = some u := fun j u hj => by
        have := hcell j u (by rw [List.getElem?_take] at hj; split at hj; exact hj; cases hj)
        rwa [Nat.zero_add] at this
      have h0 := List.getElem?_eq_getElem (l := us.take ti.size) (i := 0) (by rw [hl3, ← hl2]; simp)
      obtain ⟨ob, hob⟩ := Hp.cell_block (hin 0 _ h0)
      rw [add_block] at hob
      refine ⟨_, ad.block, hus2, ⟨b, ob, hob⟩, (Array.getElem?_eq_some_iff.1 ((hw0.imm b).1 _ _ hob)).1, fun w hs => ?_⟩
      rw [e]
      refine loadAt_run hti hl3 (fun j u hj => ?_) hti.2.2.2.1
      rw [cell_congr (w := w0) (by rw [add_block]; exact hs)]
      exact (hw0.imm b).1.cell (hin j u hj)
    unfold loadP at h
    split at h
    · rename_i c cs hagg hcs
      refine ⟨_, fun g a w0 hg hw0 => ?_, h⟩
      obtain ⟨us, B, hr, hF, hlt, hrun⟩ := key c cs hcs g a w0 hg hw0
      exact ⟨.agg us.toArray, B, ⟨_, rfl, rels_ofDL _ _ hr⟩, by rw [hfp]; exact hF, fun _ => hlt, fun w hs => by simp only [execOp, ho]; have := hrun w (hs (by rw [hfp]; simp)); rw [hagg] at this; exact run_v this⟩
    · rename_i c hagg hcs
      refine ⟨_, fun g a w0 hg hw0 => ?_, h⟩
      obtain ⟨us, B, hr, hF, hlt, hrun⟩ := key c [] hcs g a w0 hg hw0
      match us, hr with
      | [u], hr =>
        simp only [RdL] at hr
        exact ⟨u, B, rel_ofD c u hr.1, by rw [hfp]; exact hF, fun _ => hlt, fun w hs => by simp only [execOp, ho]; have := hrun w (hs (by rw [hfp]; simp)); rw [hagg] at this; exact run_v this⟩
      | [], hr => simp [RdL] at hr
      | _ :: _ :: _, hr => simp [RdL] at hr
    · exact h.elim
  · rename_i ti r ix s off hti hx
    have hti := hT _ _ hti
    have hfp : fpOf st o.op = .row r := by rw [hfp, hx]; rfl
    unfold loadR at h
    split at h
    · rename_i e' s' els hr
      rw [nth_eq] at hr
      split at h
      · rename_i hs; subst hs
        obtain ⟨h0, el, hel, h⟩ := h
        unfold elK at h
        have key : ∀ (c : D) (cs : List D), takeN ti.size (dropN off el) = some (c :: cs) → ∀ g a w0, TmOk C g st a → Mem C g st w0 → ∃ us B, RdL g.μ (c :: cs) us ∧ FpOk g (.row r) B ∧ B < w0.heap.size ∧
            ∀ w, w.heap[B]? = w0.heap[B]? → (Instr.loadAt t (a.eval x)).run C.P w = .ok (if ti.kd.agg then .agg us.toArray else us.headD undef) w := by
          intro c cs hcs g a w0 hg hw0
          obtain ⟨hlen, hl2⟩ := takeN_eq _ _ _ hcs
          rw [dropN_eq] at hlen
          have e := rel_ev hg x; rw [hx] at e; simp only [rel] at e
          obtain ⟨B, hB, e, hlt, hsp⟩ := e
          obtain ⟨hrow, htg⟩ := hw0.row _ _ _ _ hr
          obtain ⟨hs0, vss, hown, hvs, hrd⟩ := hrow.tab hsp
          have hB2 := (ob_own hown).trans hB
          obtain ⟨us, hus, hrdu⟩ := hrd.get _ _ hel
          have husl := hvs us (List.mem_of_getElem? hus)
          have hus2 := (hrdu.drop off).take ti.size
          rw [← hlen] at hus2
          have hl3 : ((us.drop off).take ti.size).length = ti.size := by rw [hus2.len, hl2]
          have hBl := hown.lt B hB2
          refine ⟨_, B, hus2, ⟨hB, hlt⟩, hBl.2, fun w hs => ?_⟩
          rw [e]
          refine loadAt_run hti hl3 (fun j u hj => ?_) hti.2.2.2.1
          rw [cell_congr (w := w0) (by rw [add_block]; exact hs)]
          have hj' : us[off + j]? = some u := by
            rw [List.getElem?_take] at hj
            split at hj
            · rw [List.getElem?_drop] at hj; exact hj
            · cases hj
          have hfl := flat_get (size := s') hj' (by have := (List.getElem?_eq_some_iff.1 hj').1; omega) vss ix.toNat hvs hus
          have hc := hown.cells hB2 _ _ hfl
          rw [Addr.add_lit] at hc ⊢
          rw [Nat.zero_add] at hc
          rw [Nat.add_assoc]; exact hc
        unfold loadP at h
        split at h
        · rename_i c cs hagg hcs
          refine ⟨_, fun g a w0 hg hw0 => ?_, h⟩
          obtain ⟨us, B, hr, hF, hlt, hrun⟩ := key c cs hcs g a w0 hg hw0
          exact ⟨.agg us.toArray, B, rel_derE (hg.tm 1000000) ⟨_, rfl, rels_ofDL _ _ hr⟩, by rw [hfp]; exact hF, fun _ => hlt, fun w hs => by simp only [execOp, ho]; have := hrun w (hs (by rw [hfp]; simp)); rw [hagg] at this; exact run_v this⟩
        · rename_i c hagg hcs
          refine ⟨_, fun g a w0 hg hw0 => ?_, h⟩
          obtain ⟨us, B, hr, hF, hlt, hrun⟩ := key c [] hcs g a w0 hg hw0
          match us, hr with
          | [u], hr =>
            simp only [RdL] at hr
            exact ⟨u, B, rel_derE (hg.tm 1000000) (rel_ofD c u hr.1), by rw [hfp]; exact hF, fun _ => hlt, fun w hs => by simp only [execOp, ho]; have := hrun w (hs (by rw [hfp]; simp)); rw [hagg] at this; exact run_v this⟩
          | [], hr => simp [RdL] at hr
          | _ :: _ :: _, hr => simp [RdL] at hr
        · exact h.elim
      · exact h.elim
    · exact h.elim
  · exact h.elim

theorem q_len {x : Operand} {t : TypeId} (hT : TabOk C.P T) (ho : o.op = .call { callee := .builtin .len, args := #[x], argTypes := #[t] }) {l : Lk (st.rw, k)} (h : lenX (tlook T t) st.rw (st.ev x) k l) : ∃ v, OpN C o st v ∧ k v := by
  unfold lenX at h
  split at h
  · rename_i z q e es eb ez m a n c hti hx
    obtain ⟨_, ⟨hu, _⟩, _⟩ := hT _ _ hti
    refine ⟨.v (.int .i64 n), fun g ac w0 hg hw0 => ⟨_, rfl, fun w => ?_⟩, h⟩
    have e1 := rel_ev hg x; rw [hx] at e1; simp only [rel] at e1
    simp [execOp, ho, resolve, invoke, builtin, e1, Builtin.len_, run_underlying hu, goInt]
  · rename_i z q e es eb ez m b sz els hti hx
    obtain ⟨_, ⟨hu, _⟩, _⟩ := hT _ _ hti
    refine ⟨.v (.int .i64 els.length), fun g ac w0 hg hw0 => ⟨_, rfl, fun w => ?_⟩, h⟩
    have e1 := rel_ev hg x; rw [hx] at e1; simp only [rel, Rd] at e1
    obtain ⟨A, c, e1, _⟩ := e1
    simp [execOp, ho, resolve, invoke, builtin, e1, Builtin.len_, run_underlying hu, goInt]
  · rename_i z q e s hti hx
    have hu : C.P.underlying t = some .string := (hT _ _ hti).2.1
    refine ⟨.v (.int .i64 s.size), fun g ac w0 hg hw0 => ⟨_, rfl, fun w => ?_⟩, h⟩
    have e1 := rel_ev hg x; rw [hx] at e1; simp only [rel] at e1
    simp [execOp, ho, resolve, invoke, builtin, e1, Builtin.len_, run_underlying hu, goInt]
  · rename_i z q e es eb ez m r hti hx
    obtain ⟨_, ⟨hu, _⟩, _⟩ := hT _ _ hti
    unfold lenR at h
    split at h
    · rename_i e' s' els hr
      rw [nth_eq] at hr
      split at h
      · exact h.elim
      rename_i hs0
      refine ⟨.v (.int .i64 els.length), fun g ac w0 hg hw0 => ⟨_, rfl, fun w => ?_⟩, h⟩
      have e1 := rel_ev hg x; rw [hx] at e1; simp only [rel] at e1
      obtain ⟨hrow, _⟩ := hw0.row _ _ _ _ hr
      obtain ⟨_, vss, hown, _, hvl⟩ := hrow.tab (by omega)
      have hvl := hvl.len
      rcases hown.2 with ⟨hv, h2⟩ | ⟨gg, cap, cur, hv, _⟩
      · simp [execOp, ho, resolve, invoke, builtin, e1.1, hv, Builtin.len_, run_underlying hu, goInt, h2, ← hvl]
      · simp [execOp, ho, resolve, invoke, builtin, e1.1, hv, Builtin.len_, run_underlying hu, goInt, hvl]
    · exact h.elim
  · exact h.elim

theorem q_ex {x : Operand} {i : Nat} (ho : o.op = .extract x i) {l : Lk k} (h : exX (st.ev x) i k l) : ∃ v, OpN C o st v ∧ k v := by
  unfold exX at h
  split at h
  · rename_i vs hx
    unfold ex2 at h
    split at h
    · rename_i y hy
      rw [nth_eq] at hy
      refine ⟨_, fun g a w0 hg hw0 => ?_, h⟩
      have e := rel_ev hg x; rw [hx] at e
      obtain ⟨us, e, hr⟩ := e
      obtain ⟨u, hu, hr⟩ := rels_get hr _ _ hy
      refine ⟨u, hr, fun w => ?_⟩
      simp only [execOp, ho, e]
      apply run_v
      have hu' : us[i]? = some u := by simpa using hu
      simp [Instr.extract, hu']
    · exact h.elim
  · exact h.elim

theorem q_nil {x : Operand} (ho : o.op = .nilCheck x) {l : Lk k} (h : nilX (st.ev x) k l) : ∃ v, OpN C o st v ∧ k v := by
  unfold nilX at h
  split at h
  · rename_i b off hx
    refine ⟨_, fun g a w0 hg hw0 => ?_, h⟩
    have e := rel_ev hg x; rw [hx] at e
    refine ⟨_, e, fun w => ?_⟩
    simp only [rel] at e
    simp [execOp, ho, e.1]
  · rename_i b cs hx
    refine ⟨_, fun g a w0 hg hw0 => ?_, h⟩
    have e := rel_ev hg x; rw [hx] at e
    refine ⟨_, e, fun w => ?_⟩
    simp only [rel, Rd] at e
    obtain ⟨ad, e, _⟩ := e
    simp [execOp, ho, e]
  · rename_i r i s o hx
    refine ⟨_, fun g a w0 hg hw0 => ?_, h⟩
    have e := rel_ev hg x; rw [hx] at e
    refine ⟨_, e, fun w => ?_⟩
    simp only [rel] at e
    obtain ⟨_, _, e, _⟩ := e
    simp [execOp, ho, e]
  · rename_i f l hx
    refine ⟨_, fun g a w0 hg hw0 => ?_, h⟩
    have e := rel_ev hg x; rw [hx] at e
    refine ⟨_, e, fun w => ?_⟩
    obtain ⟨cs, e, _⟩ := e
    simp [execOp, ho, e]
  · rename_i ad hx
    refine ⟨_, fun g a w0 hg hw0 => ?_, h⟩
    have e := rel_ev hg x; rw [hx] at e
    refine ⟨_, e, fun w => ?_⟩
    simp only [rel] at e
    simp [execOp, ho, e]
  · exact h.elim

theorem q_mm {isMax : Bool} {xs : List Operand} {ts : Array TypeId} (ho : o.op = .call { callee := .builtin (if isMax then .max else .min), args := ⟨xs⟩, argTypes := ts }) {l : Lk k} (h : mmX isMax (xs.map st.ev) k l) : ∃ v, OpN C o st v ∧ k v := by
  have key : ∀ kd kd' a b, xs.map st.ev = [.v (.int kd a), .v (.int kd' b)] → ∀ g ac, TmOk C g st ac → xs.map ac.eval = [.int kd a, .int kd' b] := fun kd kd' a b hx g ac hg => by
    have := rels_evs hg xs
    rw [hx] at this
    match hxs : xs.map ac.eval, this with
    | [u, v], h => simp only [rels, rel] at h; rw [h.1, h.2.1]
  unfold mmX at h
  split at h
  · rename_i kd a kd' b hx
    refine ⟨.v (.int kd (min a b)), fun g ac w0 hg hw0 => ⟨_, rfl, fun w => ?_⟩, h⟩
    have e := key _ _ _ _ hx g ac hg
    simp only [Bool.false_eq_true, if_false] at ho
    have e2 : (if b < a then b else a) = min a b := by rw [Int.min_def]; split <;> split <;> omega
    simp [execOp, ho, resolve, invoke, builtin, e, Builtin.min_, Builtin.min2, e2]
  · rename_i kd a kd' b hx
    refine ⟨.v (.int kd (max a b)), fun g ac w0 hg hw0 => ⟨_, rfl, fun w => ?_⟩, h⟩
    have e := key _ _ _ _ hx g ac hg
    simp only [if_true] at ho
    have e2 : (if a < b then b else a) = max a b := by rw [Int.max_def]; split <;> split <;> omega
    simp [execOp, ho, resolve, invoke, builtin, e, Builtin.max_, Builtin.max2, e2]
  · rename_i kd a kd' b kd'' c hx
    refine ⟨.v (.int kd (min (min a b) c)), fun g ac w0 hg hw0 => ⟨_, rfl, fun w => ?_⟩, h⟩
    have e : xs.map ac.eval = [.int kd a, .int kd' b, .int kd'' c] := by
      have := rels_evs hg xs
      rw [hx] at this
      match hxs : xs.map ac.eval, this with
      | [u, v, x], h => simp only [rels, rel] at h; rw [h.1, h.2.1, h.2.2.1]
    simp only [Bool.false_eq_true, if_false] at ho
    have e2 : (if c < (if b < a then b else a) then c else (if b < a then b else a)) = min (min a b) c := by rw [Int.min_def, Int.min_def]; repeat' split <;> omega
    simp [execOp, ho, resolve, invoke, builtin, e, Builtin.min_, Builtin.min2, e2]
  · exact h.elim

theorem q_clo {f : FuncId} {cs : Array Operand} (ho : o.op = .makeFunc (.func f) #[] cs) : OpN C o st (.clo f (cs.toList.map st.ev)) := fun g a _ hg _ =>
  ⟨.func (.func f) #[] (cs.map a.eval), ⟨_, rfl, by simpa using rels_evs hg cs.toList⟩, fun w => by simp [execOp, ho, Instr.makeFunc]⟩

/-! ### a struct literal -/
theorem foldl_set (off : Nat) : ∀ (l : List Value) (b : Nat) (c : Array Value), off + b + l.length ≤ c.size →
    ((l.zipIdx b).foldl (fun (acc : Array Value) (q : Value × Nat) => acc.setIfInBounds (off + q.2) q.1) c).toList = c.toList.take (off + b) ++ l ++ c.toList.drop (off + b + l.length)
  | [], b, c, _ => by simp
  | x :: l, b, c, h => by
    simp only [List.length_cons] at h
    have ih := foldl_set off l (b + 1) (c.setIfInBounds (off + b) x) (by simp; omega)
    simp only [List.zipIdx_cons, List.foldl_cons]
    rw [ih]
    have hlt : off + b < c.toList.length := by simp; omega
    simp only [Array.toList_setIfInBounds, List.length_cons]
    rw [show off + (b + 1) = off + b + 1 by omega, List.take_set, List.drop_set_of_lt (by omega)]
    rw [List.take_succ_eq_append_getElem hlt, List.set_append]
    simp only [List.length_take]
    rw [if_neg (by omega)]
    have : off + b - min (off + b) c.toList.length = 0 := by omega
    rw [this]
    simp only [List.set_cons_zero, List.append_assoc, List.cons_append, List.nil_append]
    rw [show off + b + (l.length + 1) = off + b + 1 + l.length by omega]

theorem fill_fold (v : Array Value) (off : Nat) (c : Array Value) (h : off + v.size ≤ c.size) :
    (v.zipIdx.foldl (fun (cs : Array Value) (q : Value × Nat) => cs.setIfInBounds (off + q.2) q.1) c).toList = c.toList.take off ++ v.toList ++ c.toList.drop (off + v.size) := by
  have := foldl_set off v.toList 0 c (by simpa using h)
  rw [← Array.foldl_toList, Array.toList_zipIdx]
  simpa using this

theorem fill_sound {P : Program} {fl : Array Field} {fs : List (Nat × Nat)} (hfl : ∀ (f o s : Nat), fs[f]? = some (o, s) → ∃ fd : Field, fl[f]? = some fd ∧ fd.offset = o ∧ ∃ j, P.info? fd.type = some j ∧ j.size = s ∧ s ≠ 0)
    {places : Array (Nat × Nat)} (hpl : ∀ (f : Nat) (fd : Field) (j : TypeInfo), fl[f]? = some fd → P.info? fd.type = some j → places[f]? = some (fd.offset, j.size)) {g : Gh} :
    ∀ (ps : List (Nat × SV)) (us : List (Nat × Value)) (cs out : List SV) (cells : Array Value), ps.map (·.1) = us.map (·.1) → rels g (ps.map (·.2)) (us.map (·.2)) → rels g cs cells.toList →
      fillS fs (some cs) ps = some out → ∃ cells' : Array Value, Instr.fill (places[·]?) cells us = some cells' ∧ rels g out cells'.toList
  | [], [], cs, out, cells, _, _, hc, h => by simp only [fillS, Option.some.injEq] at h; subst h; exact ⟨cells, rfl, hc⟩
  | [], _ :: _, _, _, _, h, _, _, _ => by simp at h
  | _ :: _, [], _, _, _, h, _, _, _ => by simp at h
  | (i, x) :: ps, (i', u) :: us, cs, out, cells, hi, hr, hc, h => by
    simp only [List.map_cons, List.cons.injEq] at hi
    obtain ⟨rfl, hi⟩ := hi
    obtain ⟨hx, hr⟩ := hr
    simp only [fillS] at h
    cases h1 : fil1 cs (nth fs i) (cellsOf x) with
    | none => rw [h1] at h; cases ps <;> simp [fillS] at h
    | some cs' =>
      rw [h1] at h
      unfold fil1 at h1
      split at h1
      · rename_i off n xs hf hcx
        split at h1
        · rename_i hn
          rw [lenN_eq] at hn
          obtain ⟨hle, rfl⟩ := putL_eq _ _ _ _ h1
          rw [nth_eq] at hf
          obtain ⟨fd, e1, e2, j, e3, e4, e5⟩ := hfl _ _ _ hf
          have hp := hpl _ _ _ e1 e3
          have hcu : rels g xs u.cells.toList := rel_cells hcx hx
          have hsz : u.cells.size = n := by have := rels_length hcu; rw [Array.length_toList] at this; omega
          have hcl : cells.size = cs.length := by have := rels_length hc; simpa using this
          have hle' : fd.offset + u.cells.size ≤ cells.size := by omega
          have hff := fill_fold u.cells fd.offset cells hle'
          simp only [Instr.fill, hp, e4]
          rw [if_neg (by simp; omega)]
          refine fill_sound hfl hpl ps us _ out _ hi hr ?_ h
          rw [hff, e2, hsz]
          have hxl : xs.length = n := hn
          rw [← hxl]
          exact rels_append (rels_append (rels_take _ hc) hcu) (rels_drop _ hc)
        · cases h1
      · cases h1

theorem fillA_sound {es : Nat} {g : Gh} :
    ∀ (ps : List (Nat × SV)) (us : List (Nat × Value)) (cs out : List SV) (cells : Array Value), ps.map (·.1) = us.map (·.1) → rels g (ps.map (·.2)) (us.map (·.2)) → rels g cs cells.toList →
      fillA es (some cs) ps = some out → ∃ cells' : Array Value, Instr.fill (fun i => some (i * es, es)) cells us = some cells' ∧ rels g out cells'.toList
  | [], [], cs, out, cells, _, _, hc, h => by simp only [fillA, Option.some.injEq] at h; subst h; exact ⟨cells, rfl, hc⟩
  | [], _ :: _, _, _, _, h, _, _, _ => by simp at h
  | _ :: _, [], _, _, _, h, _, _, _ => by simp at h
  | (i, x) :: ps, (i', u) :: us, cs, out, cells, hi, hr, hc, h => by
    simp only [List.map_cons, List.cons.injEq] at hi
    obtain ⟨rfl, hi⟩ := hi
    obtain ⟨hx, hr⟩ := hr
    simp only [fillA] at h
    cases h1 : fil1 cs (some (i * es, es)) (cellsOf x) with
    | none => rw [h1] at h; cases ps <;> simp [fillA] at h
    | some cs' =>
      rw [h1] at h
      unfold fil1 at h1
      split at h1
      · rename_i off n xs hf hcx
        cases hf
        split at h1
        · rename_i hn
          rw [lenN_eq] at hn
          obtain ⟨hle, rfl⟩ := putL_eq _ _ _ _ h1
          have hcu : rels g xs u.cells.toList := rel_cells hcx hx
          have hsz : u.cells.size = es := by have := rels_length hcu; rw [Array.length_toList] at this; omega
          have hcl : cells.size = cs.length := by have := rels_length hc; simpa using this
          have hle' : i * es + u.cells.size ≤ cells.size := by omega
          have hff := fill_fold u.cells (i * es) cells hle'
          simp only [Instr.fill]
          rw [if_neg (by simp; omega)]
          refine fillA_sound ps us _ out _ hi hr ?_ h
          rw [hff]
          have hxl : xs.length = u.cells.size := by omega
          rw [← hxl]
          exact rels_append (rels_append (rels_take _ hc) hcu) (rels_drop _ hc)
        · cases h1
      · cases h1

theorem rels_ofV (g : Gh) : ∀ l : List Value, rels g (l.map ofV) l
  | [] => by simp [rels]
  | x :: l => ⟨rel_ofV g x, rels_ofV g l⟩

theorem run_places {P : Program} {w : World} (fl : List Field) (h : ∀ fd ∈ fl, ∃ j, P.info? fd.type = some j) :
    (fl.mapM fun f => (do pure (f.offset, ← sizeOf f.type) : Sem (Nat × Nat))).run P w = .ok (fl.map fun f => (f.offset, ((P.info? f.type).map (·.size)).getD 0)) w := by
  induction fl with
  | nil => rfl
  | cons f fl ih =>
    obtain ⟨j, hj⟩ := h f (by simp)
    have ih := ih fun fd hfd => h fd (by simp [hfd])
    simp only [List.mapM_cons, Sem.run_bind, sizeOf, typeInfo, run_program, Result.andThen_ok, hj, Sem.run_pure, List.map_cons, Option.map_some, Option.getD_some]
    simp only [sizeOf, typeInfo] at ih
    rw [ih]
    rfl

theorem q_fld (hT : TabOk C.P T) {t : TypeId} {x : Operand} {f : Nat} (ho : o.op = .field t x f) {l : Lk k} (h : fldX (tlook T t) (st.ev x) f k l) : ∃ v, OpN C o st v ∧ k v := by
  unfold fldX at h
  split at h
  · rename_i s z fs n l hti hx
    obtain ⟨hn, h⟩ := h
    obtain ⟨_, ⟨fl, hu, _, hfs⟩, _, _, hsc⟩ := hT _ _ hti
    unfold fld2 at h
    split at h
    · rename_i o1 hf
      rw [nth_eq] at hf
      unfold fld3 at h
      split at h
      · rename_i c hc
        rw [nth_eq] at hc
        refine ⟨c, fun g a w0 hg hw0 => ?_, h.2⟩
        have e1 := rel_ev hg x; rw [hx] at e1
        obtain ⟨cs, e1, hr⟩ := e1
        obtain ⟨u, hu1, hu2⟩ := rels_get hr _ _ hc
        refine ⟨u, hu2, fun w => ?_⟩
        obtain ⟨fd, h1, h2, _⟩ := hfs _ _ _ hf
        have hcs : cs[o1]? = some u := by simpa using hu1
        have hsc' := hsc fs rfl hn fl hu f fd h1
        simp only [execOp, ho, e1]
        apply run_v
        rcases hsc' with hsc' | hsc' <;> simp [Instr.field, run_underlying hu, h1, asAgg, part, isAgg, run_underlying hsc', h2, hcs]
      · exact h.elim
    · exact h.elim
  · exact h.elim
theorem q_build (hT : TabOk C.P T) {t : TypeId} {ps : Array (Nat × Operand)} (ho : o.op = .build t ps) {l : Lk k} (h : buildX (tlook T t) (ps.toList.map fun p => (p.1, st.ev p.2)) k l) : ∃ v, OpN C o st v ∧ k v := by
  unfold buildX at h
  split at h
  · rename_i s z fs e hti
    unfold bld2 at h
    split at h
    · rename_i cs hfill
      obtain ⟨⟨i, hi, hsz, zz, hz, hzz⟩, ⟨fl, hu, hfsz, hfl⟩, _⟩ := hT _ _ hti
      refine ⟨_, fun g ac w0 hg hw0 => ?_, h⟩
      have hall : ∀ fd ∈ fl.toList, ∃ j, C.P.info? fd.type = some j := by
        intro fd hfd
        obtain ⟨n, hn, rfl⟩ := List.getElem_of_mem hfd
        have hn' : n < fs.length := by rw [← hfsz]; simpa using hn
        obtain ⟨fd', e1, _, j, e3, _⟩ := hfl n fs[n].1 fs[n].2 (by rw [List.getElem?_eq_getElem hn'])
        have : fl.toList[n]? = some fd' := by simpa using e1
        rw [List.getElem?_eq_getElem hn] at this
        cases this
        exact ⟨j, e3⟩
      have hps := rels_evs hg (ps.toList.map (·.2))
      obtain ⟨cells', hf, hr⟩ := fill_sound (P := C.P) (g := g) hfl (places := (fl.toList.map fun f => (f.offset, ((C.P.info? f.type).map (·.size)).getD 0)).toArray)
        (by intro f fd j h1 h2; have : fl.toList[f]? = some fd := by simpa using h1
            simp [List.getElem?_map, h1, h2]) _ (ps.toList.map fun p => (p.1, ac.eval p.2)) _ cs zz.cells (by simp [Function.comp_def]) (by simpa [Function.comp_def] using hps) (by rw [hzz]; exact rels_ofV g _) hfill
      refine ⟨.agg cells', ⟨_, rfl, hr⟩, fun w => ?_⟩
      simp only [execOp, ho]
      apply run_v
      have hpl := run_places (P := C.P) (w := w) fl.toList hall
      have hpl' : (fl.mapM fun f => (do pure (f.offset, ← sizeOf f.type) : Sem (Nat × Nat))).run C.P w = .ok (fl.toList.map fun f => (f.offset, ((C.P.info? f.type).map (·.size)).getD 0)).toArray w := by
        rw [Array.mapM_eq_mapM_toList]
        rw [show (List.toArray <$> (fl.toList.mapM fun f => (do pure (f.offset, ← sizeOf f.type) : Sem (Nat × Nat)))) = ((fl.toList.mapM fun f => (do pure (f.offset, ← sizeOf f.type) : Sem (Nat × Nat))) >>= fun l => pure l.toArray) from rfl]
        rw [Sem.run_bind, hpl]; rfl
      have hfe : (ps.map fun p => (p.1, ac.eval p.2)).toList = ps.toList.map fun p => (p.1, ac.eval p.2) := by simp
      have hmp : (Array.map (fun x => (x.1, ac.eval x.2)) ps).toList = ps.toList.map fun p => (p.1, ac.eval p.2) := by simp
      simp only [Instr.build, zeroValue, typeInfo, Sem.run_bind, run_program, Result.andThen_ok, hi, Sem.run_pure, hz, run_underlying hu]
      rw [hpl']
      simp only [Result.andThen_ok]
      rw [hmp, hf]
      rfl
    · exact h.elim
  · rename_i s z n u es e hti
    unfold bld2 at h
    split at h
    · rename_i cs hfill
      obtain ⟨⟨i, hi, hsz, zz, hz, hzz⟩, ⟨hu, jj, hjj, hjsz⟩, _⟩ := hT _ _ hti
      refine ⟨_, fun g ac w0 hg hw0 => ?_, h⟩
      have hps := rels_evs hg (ps.toList.map (·.2))
      obtain ⟨cells', hf, hr⟩ := fillA_sound (es := es) (g := g) _ (ps.toList.map fun p => (p.1, ac.eval p.2)) _ cs zz.cells (by simp [Function.comp_def]) (by simpa [Function.comp_def] using hps) (by rw [hzz]; exact rels_ofV g _) hfill
      refine ⟨.agg cells', ⟨_, rfl, hr⟩, fun w => ?_⟩
      simp only [execOp, ho]
      apply run_v
      have hmp : (Array.map (fun x => (x.1, ac.eval x.2)) ps).toList = ps.toList.map fun p => (p.1, ac.eval p.2) := by simp
      simp only [Instr.build, zeroValue, sizeOf, typeInfo, Sem.run_bind, run_program, Result.andThen_ok, hi, Sem.run_pure, hz, run_underlying hu, hjj, hjsz]
      rw [hmp, hf]
      rfl
    · exact h.elim
  · exact h.elim

theorem eqI_nn {P : Program} {t : TypeId} {ms : Array (String × TypeId)} (d : Nat) (h : P.underlying t = some (.interface ms)) (w : World) : (Op.equalIn (d + 1) t .nilIface .nilIface).run P w = .ok true w := by
  simp [Op.equalIn, run_underlying h]
theorem eqI_hn {P : Program} {t : TypeId} {ms : Array (String × TypeId)} (d : Nat) (h : P.underlying t = some (.interface ms)) (a : TypeId) (b : Value) (w : World) : (Op.equalIn (d + 1) t (.iface a b) .nilIface).run P w = .ok false w := by
  simp [Op.equalIn, run_underlying h]
theorem q_ifc (hT : TabOk C.P T) {op : BinOp} {t u : TypeId} {x : Operand} {s : Nat} {z : List Value} {m : Nat} {k : SV → Prop} (hti : tlook T t = some ⟨s, z, .ifc, m⟩) (ho : o.op = .binOp op t x (.const .nilIface) u) {l : Lk k} (h : ifcX op (st.ev x) k l) : ∃ v, OpN C o st v ∧ k v := by
  obtain ⟨_, ⟨ms, hu⟩, _⟩ := hT _ _ hti
  have key : ∀ (v w0 : Value), st.ev x = .v w0 → (∀ w, ((do eqGuard op t x (.const .nilIface) w0 .nilIface; binOp op t w0 .nilIface) : Sem Value).run C.P w = .ok v w) → OpN C o st (.v v) := fun v w0 hx hv g a _ hg _ =>
    ⟨v, rfl, fun w => by
      have e1 := rel_ev hg x; rw [hx] at e1; simp only [rel] at e1
      simp only [execOp, ho, e1]
      exact run_v (hv w)⟩
  have g1 : ∀ op, eqGuard op t x (.const .nilIface) .nilIface .nilIface = pure () := fun op => by cases op <;> simp [eqGuard]
  have g2 : ∀ op a b, eqGuard op t x (.const .nilIface) (.iface a b) .nilIface = pure () := fun op a b => by cases op <;> simp [eqGuard]
  have n1 := fun w => eqI_nn (P := C.P) 9999 hu w
  have n2 := fun a b w => eqI_hn (P := C.P) 9999 hu a b w
  unfold ifcX at h
  split at h
  · rename_i hx
    exact ⟨_, key _ _ hx fun w => by rw [g1]; simp only [binOp, Op.equal, Op.maxDepth, Sem.run_bind, Sem.run_pure, Result.andThen_ok, n1], h⟩
  · rename_i hx
    exact ⟨_, key _ _ hx fun w => by rw [g1]; simp only [binOp, Op.equal, Op.maxDepth, Sem.run_bind, Sem.run_pure, Result.andThen_ok, n1]; rfl, h⟩
  · rename_i a b hx
    exact ⟨_, key _ _ hx fun w => by rw [g2]; simp only [binOp, Op.equal, Op.maxDepth, Sem.run_bind, Sem.run_pure, Result.andThen_ok, n2], h⟩
  · rename_i a b hx
    exact ⟨_, key _ _ hx fun w => by rw [g2]; simp only [binOp, Op.equal, Op.maxDepth, Sem.run_bind, Sem.run_pure, Result.andThen_ok, n2]; rfl, h⟩
  · exact h.elim
theorem notI {P : Program} {t : TypeId} {ti : TI} (hti : TIok P t ti) (hk : ti.kd.isI = false) : ∃ d, P.underlying t = some d ∧ ∀ ms, d ≠ .interface ms := by
  obtain ⟨_, h, _, _⟩ := hti
  cases hh : ti.kd <;> rw [hh] at h hk <;> simp only [KdOk] at h
  · obtain ⟨d, h1, _, _, h2⟩ := h; exact ⟨d, h1, h2⟩
  · exact ⟨_, h, by simp⟩
  · exact ⟨_, h, by simp⟩
  · obtain ⟨fl, h, _⟩ := h; exact ⟨_, h, by simp⟩
  · exact ⟨_, h.1, by simp⟩
  · exact ⟨_, h.1, by simp⟩
  · obtain ⟨_, _, h, _⟩ := h; exact ⟨_, h, by simp⟩
  · cases hk
theorem q_mki (hT : TabOk C.P T) {t : TypeId} {x : Operand} (ho : o.op = .makeInterface t x) {l : Lk k} (h : mkiX (tlook T t) t (hevE (look st.tm 1000000) (st.ev x)) k l) : ∃ v, OpN C o st v ∧ k v := by
  unfold mkiX at h
  split at h
  · rename_i s z kd n w hti hx
    obtain ⟨hk, h⟩ := h
    obtain ⟨d, hu, hd⟩ := notI (hT _ _ hti) hk
    refine ⟨.v (.iface t w), fun g a _ hg _ => ⟨.iface t w, rfl, fun w' => ?_⟩, h⟩
    have e1 := rel_hev hg x
    rw [show hev st x = .v w from hx] at e1
    simp only [rel] at e1
    simp only [execOp, ho, e1]
    apply run_v
    simp only [Instr.makeInterface, Sem.run_bind, run_underlying hu, Result.andThen_ok]
    cases d <;> first | rfl | exact absurd rfl (hd _)
  · exact h.elim
theorem q_tas (hT : TabOk C.P T) {x : Operand} {xt a : TypeId} {ok : Bool} (ho : o.op = .typeAssert x xt a ok) {l : Lk k} (h : tasX (tlook T a) (look st.tm 1000000) (st.ev x) a ok k l) : ∃ v, OpN C o st v ∧ k v := by
  unfold tasX at h
  split at h
  · rename_i s z kd n t w hti hx
    obtain ⟨hk, h⟩ := h
    have hok := hT _ _ hti
    obtain ⟨d, hu, hd⟩ := notI hok hk
    obtain ⟨⟨i, hi, _, zv, hz, _⟩, _, _, _⟩ := hok
    split at h
    · rename_i hta
      subst hta
      refine ⟨taV ok (derE (look st.tm 1000000) (.v w)), fun g ac _ hg _ => ⟨if ok then .tuple #[w, .bool true] else w, ?_, fun w' => ?_⟩, h⟩
      · have e1 : rel g (derE (look st.tm 1000000) (.v w)) w := rel_derE (hg.tm 1000000) rfl
        cases ok
        · exact e1
        · exact ⟨_, rfl, e1, rfl, trivial⟩
      · have e1 := rel_ev hg x; rw [hx] at e1; simp only [rel] at e1
        simp only [execOp, ho, e1]
        apply run_v
        simp only [Instr.typeAssert, Sem.run_bind, run_underlying hu, Result.andThen_ok]
        cases d <;> first | (cases ok <;> simp; done) | exact absurd rfl (hd _)
    · rename_i hta
      obtain ⟨hok2, h⟩ := h
      subst hok2
      refine ⟨.tup [.any, .v (.bool false)], fun g ac _ hg _ => ⟨.tuple #[zv, .bool false], (show ∃ cs, Value.tuple #[zv, .bool false] = .tuple cs ∧ rels g [.any, .v (.bool false)] cs.toList from ⟨_, rfl, trivial, rfl, trivial⟩), fun w' => ?_⟩, h⟩
      have e1 := rel_ev hg x; rw [hx] at e1; simp only [rel] at e1
      simp only [execOp, ho, e1]
      apply run_v
      simp only [Instr.typeAssert, Sem.run_bind, run_underlying hu, Result.andThen_ok]
      cases d <;> first | (simp [hta, zeroValue, typeInfo, hi, hz]; done) | exact absurd rfl (hd _)
  · exact h.elim
theorem q_bin3 (hT : TabOk C.P T) {op : BinOp} {t u : TypeId} {x y : Operand} (ho : o.op = .binOp op t x y u) {l : Lk k} (h : bin3Q y (tlook T t) op (st.ev x) (st.ev y) k l) : ∃ v, OpN C o st v ∧ k v := by
  unfold bin3Q at h
  split at h
  · rename_i hti; exact q_ifc hT hti ho h
  · exact q_bin hT ho h
theorem q_sound (hT : TabOk C.P T) {op : Op} (hop : o.op = op) {l : Lk (T, op, st, k)} (h : qX T op st k l) : ∃ v, OpQ C o st v ∧ k v := by
  have q : fpOf st o.op = .no → (∃ v, OpN C o st v ∧ k v) → ∃ v, OpQ C o st v ∧ k v := fun hf ⟨v, h1, h2⟩ => ⟨v, h1.quiet hf, h2⟩
  unfold qX at h
  split at h
  · exact q (by rw [hop]; rfl) ⟨_, q_copy _ (.inl hop), h⟩
  · exact q (by rw [hop]; rfl) ⟨_, q_copy _ (.inr hop), h⟩
  · exact q (by rw [hop]; rfl) (q_pick hop h)
  · exact q (by rw [hop]; rfl) (q_bin3 hT hop h)
  · exact q (by rw [hop]; rfl) (q_un hop h)
  · exact q (by rw [hop]; rfl) (q_conv hT hop h)
  · exact q (by rw [hop]; rfl) (q_fa hT hop h)
  · exact q (by rw [hop]; rfl) (q_ia hT hop h)
  · exact q_load hT hop h
  · exact q (by rw [hop]; rfl) (q_sli hT hop h)
  · exact q (by rw [hop]; rfl) (q_tc hT hop h)
  · exact q (by rw [hop]; rfl) (q_tc4 hT hop h)
  · exact q (by rw [hop]; rfl) (q_ex hop h)
  · exact q (by rw [hop]; rfl) (q_nil hop h)
  · exact q (by rw [hop]; rfl) (q_mki hT hop h)
  · exact q (by rw [hop]; rfl) (q_tas hT hop h)
  · exact q (by rw [hop]; rfl) (q_build hT hop h)
  · obtain ⟨h1, h2⟩ := h; subst h1; exact q (by rw [hop]; rfl) ⟨_, q_clo hop, h2⟩
  · exact q (by rw [hop]; rfl) (q_len hT hop h)
  · exact q (by rw [hop]; rfl) (q_mm (isMax := false) hop h)
  · exact q (by rw [hop]; rfl) (q_mm (isMax := true) hop h)
  · exact q (by rw [hop]; rfl) (q_fld hT hop h)
  · exact h.elim

end
end Go.Vx
