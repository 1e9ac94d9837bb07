/-
 The executor is sound: calls, regions, code, loops, functions.
-/
import Derived.Test.YtgcmppghjfidfaaGreatDoorVMap
import Derived.Deep.LoopGhost
namespace Go.Vx
open Go Go.RowKit
set_option linter.unusedSimpArgs false

section
variable {C : Cx} {T : Tab} {o : Oper} {st : St} {K : SV → St → Prop}

theorem e_call {f : Operand} {xs : List Operand} {ts : Array TypeId} (ho : o.op = .call { callee := .value f, args := ⟨xs⟩, argTypes := ts }) {l : Lk (C, st, K)} (h : callX C (st.ev f) (xs.map st.ev) st K l) : OpE (callHt (st.ev f) (xs.map st.ev)) C o st K := by
 intro g a w ht hm Q
 have hargs := rels_evs ht xs
 have key : ∀ (fn : Nat) (cs : List Value) {ht : Ht}, a.eval f = .func (.func fn) #[] cs.toArray →
   (Ent C.P fn ∧ Calls C.P fn (xs.map a.eval ++ cs).toArray w (fun e w' => ∃ v, e = .returned v ∧ ∃ g' st' sv, K sv st' ∧ rel g' sv v ∧ TmOk C g' st' a ∧ Mem C g' st' w' ∧ (C.dr = true → g.Le g' ∧ Fr g ht w w'))) →
   OpP C o a w (fun a' w' => ∃ g' st' v u, K v st' ∧ a' = a.put o.dst u ∧ rel g' v u ∧ TmOk C g' st' a ∧ Mem C g' st' w' ∧ (C.dr = true → g.Le g' ∧ Fr g ht w w')) Q := by
  intro fn cs _ hf ⟨⟨fu, h1, h2, h3⟩, hc⟩
  have hrun : (execOp a.eval o).run C.P w = .ok (.enter fn (xs.map a.eval ++ cs).toArray) w := by
   simp only [execOp, ho, resolve, hf, Deferred.ofValue, Sem.run_bind, Sem.run_pure, Result.andThen_ok, invoke, callFunc, run_program, h1, h2, h3]
   simp
  refine ⟨fun _ => ?_, fun hnd => ⟨fun f _ => Fx_fn _ f, ?_⟩⟩
  ·unfold Oper.wp
   rw [hrun]
   simp only [Oper.upon]
   exact hc.mono fun e w' ⟨v, he, g', st', sv, k1, k2, k3, k4, k5⟩ => by subst he; exact ⟨g', st', sv, v, k1, rfl, k2, k3, k4, k5⟩
  ·rw [Oper.semAt_eq _ _ _ hnd, hrun]
   simp only [Oper.uponIn]
   exact ⟨fun hd => by rw [Fx_depth] at hd; simp at hd, callsIn_Fx (hc.mono fun e w' ⟨v, he, g', st', sv, k1, k2, k3, k4, k5⟩ => by subst he; exact ⟨g', st', sv, v, k1, rfl, k2, k3, k4, k5⟩)⟩
 unfold callX at h
 split at h
 ·rename_i fn l hf
  have e := rel_ev ht f; rw [hf] at e; rw [hf]
  obtain ⟨cs, e, hr⟩ := e
  refine key fn cs.toList (by simpa using e) ?_
  exact h g a w ht hm _ (rels_append hargs hr)
 ·rename_i fn first cs hf
  have e := rel_ev ht f; rw [hf] at e; rw [hf]; simp only [rel] at e
  obtain ⟨rfl, h⟩ := h
  refine key fn cs.toList (by simpa using e) ?_
  exact h g a w ht hm _ (rels_append hargs (rels_map_v g _))
 ·rename_i yl first cs hf
  have e := rel_ev ht f; rw [hf] at e; simp only [rel] at e
  obtain ⟨rfl, rfl, hdr, h⟩ := h
  obtain ⟨fn, tmps, assign, body, hy, hR⟩ := h g a w ht hm _ hargs
  refine ⟨fun hd => (by rw [hdr] at hd; cases hd), fun hnd => ⟨fun f _ => Fx_fn _ f, ?_⟩⟩
  have hrun : (execOp a.eval o).run C.P w = .ok (.round yl fn tmps assign body) w := by
   simp only [execOp, ho, resolve, e, Deferred.ofValue, Sem.run_bind, Sem.run_pure, Result.andThen_ok, invoke, callFunc]
   simpa using hy
  rw [Oper.semAt_eq _ _ _ hnd, hrun]
  simp only [Oper.uponIn]
  refine ⟨fun hd => by rw [Fx_depth] at hd; simp at hd, Fx_fn _ _, fun c cs hroom => ?_⟩
  obtain ⟨e', w', hq, hs⟩ := hR.2 c cs (Fx_room none _)
  obtain ⟨v, rfl, g', st', sv, k1, k2, k3, k4⟩ := hq
  refine ⟨.returned v, w', ⟨g', st', sv, v, k1, rfl, k2, k3, k4, fun hd => by rw [hdr] at hd; cases hd⟩, ?_⟩
  cases C.pin.ho.ro with
  | none => exact hs
  | some l => exact hs
 ·exact h.elim

/-- What an operation writes, of what stands. -/
def opHt (st : St) : Op → Ht
 | .store _ x _ => htV (st.ev x)
 | .call { callee := .builtin .append, args := ⟨[x, _]⟩, .. } => htV (st.ev x)
 | .mapUpdate _ m _ _ => htV (st.ev m)
 | .insert _ m _ _ => htV (st.ev m)
 | .call { callee := .value f, args := ⟨xs⟩, .. } => callHt (st.ev f) (xs.map st.ev)
 | _ => .no

theorem op_sound (hT : TabOk C.P T) {op : Op} (hop : o.op = op) {l : Lk (T, C, op, st, K)} (h : opX T C op st K l) : OpE (opHt st op) C o st K := by
 unfold opX at h
 split at h
 ·exact e_alloc hT hop h
 ·exact e_box hop h
 ·exact e_store hT hop h
 ·exact e_bsG hT hop h
 ·exact e_bs hT hop h
 ·exact e_mk hT hop h
 ·exact e_bin3 hT hop h
 ·split at h
  ·rename_i ht; subst ht; exact e_app hT hop h
  ·exact e_apz hT hop h
 ·exact e_cap hT hop h
 ·unfold slcY at h
  split at h
  ·exact e_slB hT hop (by assumption) h
  ·exact e_slP hT hop (by assumption) h
  unfold slcX at h
  split at h
  ·exact e_tr hT hop (by assumption) h
  ·exact e_slR hT hop h
  ·rename_i hx1 hx2
   obtain ⟨v, h1, h2⟩ := q_sli hT hop h
   exact e_quiet (h1.quiet (by rw [hop]; rfl)) h2
 ·unfold tcC at h
  split at h
  ·exact e_tcR hT hop h
  ·obtain ⟨v, h1, h2⟩ := q_tc hT hop h
   exact e_quiet (h1.quiet (by rw [hop]; rfl)) h2
 ·exact e_call hop h
 ·exact e_makeMap hop h
 ·exact e_lookup hT hop h
 ·exact e_mapUpdate hT (.inl hop) h
 ·exact e_conv hT hop h
 ·exact e_index hT hop h
 ·exact e_mapUpdate hT (.inr hop) h
 ·rename_i h1 h2 h3 hbg h4 h5 h6 h7 h8 h9 h9b h10 h11 h12 h13 h14 h15 h16
  have : opHt st op = .no := by
   unfold opHt
   split
   ·exact (h3 _ _ _ _ rfl HEq.rfl).elim
   ·obtain ⟨v, _, _⟩ := q_sound hT hop h
    simp [qX] at h
   ·exact (h13 _ _ _ _ _ rfl HEq.rfl).elim
   ·exact (h16 _ _ _ _ _ rfl HEq.rfl).elim
   ·exact (h10 _ _ _ _ rfl HEq.rfl).elim
   ·rfl
  rw [this]
  obtain ⟨v, h1, h2⟩ := q_sound hT hop h
  exact e_quiet h1 h2

/-! ### a region in the order of the text -/
theorem yielded_of {g : Gh} {a : Act} (ht : TmOk C g st a) {all : List Oper} {j : Nat} :
  (∀ b, gSV st all j = .v (.bool b) → yielded all.toArray a.tmps j = some b) ∧
  (gSV st all j = .tup [] → yielded all.toArray a.tmps j = none) := by
 unfold gSV gS2 yielded
 rw [nth_eq]
 split
 ·rename_i d op ty ps af gd hj
  have hr := ht.tm d
  have hj' : all.toArray[j]? = some ⟨some d, op, ty, ps, af, gd⟩ := by simpa using hj
  simp only [hj', Option.bind_some]
  have key : ∀ u : Value, a.tmps.getD d undef = u → u ≠ undef → a.tmps[d]? = some u := fun u h hn => by
   simp only [Array.getD_eq_getD_getElem?] at h
   cases hd : a.tmps[d]? with
   | none => rw [hd] at h; exact absurd h.symm hn
   | some x => rw [hd] at h; simp at h; rw [h]
  refine ⟨fun b h => ?_, fun h => ?_⟩ <;> rw [h] at hr
  ·rw [key _ hr (by simp [undef])]
  ·obtain ⟨cs, h1, h2⟩ := hr
   simp only [Array.getD_eq_getD_getElem?] at h1
   cases hd : a.tmps[d]? with
   | none => rfl
   | some x => rw [hd] at h1; simp at h1; rw [h1]
 ·refine ⟨fun b h => ?_, fun h => ?_⟩ <;> cases h

theorem TmOk.know {C : Cx} {g : Gh} {st : St} {a : Act} (h : TmOk C g st a) {d : Option Nat} {x : SV} (hx : ∀ t, d = some t → rel g x (a.tmps.getD t undef)) : TmOk C g (st.put d x) a := by
 cases d with
 | none => exact h
 | some t =>
  refine ⟨h.nb, h.nr, h.defers, h.size, fun t' => ?_, h.frz, h.pin⟩
  simp only [St.put, look]
  split
  ·rename_i e; subst e; exact hx t rfl
  ·exact h.tm t'

theorem gX_sound {A B : St → Prop} {all : List Oper} {j : Nat} {want : Bool} {l : Lk (st, A, B)} (h : gX (gSV st all j) want (gD (nth all j)) st A B l) {g : Gh} {a : Act} {w : World} (hm : Mod C g st a w) {o : Oper} (ho : o.guard = some (j, want)) :
  ∃ st', Mod C g st' a w ∧ ((Region.wanted o (yielded all.toArray a.tmps) = true ∧ A st') ∨ (Region.wanted o (yielded all.toArray a.tmps) = false ∧ B st')) := by
 have hw : Region.wanted o (yielded all.toArray a.tmps) = (yielded all.toArray a.tmps j == some want) := by unfold Region.wanted; rw [ho]
 rw [hw]
 obtain ⟨y1, y4⟩ := yielded_of (all := all) (j := j) hm.tm
 have hd : ∀ t, gD (nth all j) = some t → gSV st all j = look st.tm t := fun t ht => by
  unfold gSV gS2
  unfold gD at ht
  split at ht
  ·rename_i d op ty ps af gg hn
   rw [hn, ht]
  ·cases ht
 have know : ∀ (e : Bool), gSV st all j = .v (.bool e) → Mod C g (st.put (gD (nth all j)) (.v (.bool e))) a w := fun e hx =>
  ⟨hm.tm.know fun t ht => by
   have h1 := hm.tm.tm t
   rw [← hd t ht, hx] at h1
   exact h1, hm.mem.put _ _⟩
 unfold gX at h
 split at h <;> rename_i hx
 ·rename_i e
  rw [y1 _ hx]
  cases e
  ·exact ⟨_, know false hx, .inr ⟨by simp, h.2 rfl⟩⟩
  ·exact ⟨_, know true hx, .inl ⟨by simp, h.1 rfl⟩⟩
 ·rename_i e
  rw [y1 _ hx]
  cases e
  ·exact ⟨_, know false hx, .inl ⟨by simp, h.2 rfl⟩⟩
  ·exact ⟨_, know true hx, .inr ⟨by simp, h.1 rfl⟩⟩
 ·rw [y4 hx]; exact ⟨st, hm, .inr ⟨by simp, h⟩⟩
 ·exact h.elim

theorem ops_sound (hT : TabOk C.P T) (all : List Oper) : ∀ (l : List Oper) (st : St) (K : St → Prop) {lk : Lk (T, C, all, l, st, K)}, runOps T C all l st K lk → dstOps C.N l = true → ∀ g a w, Mod C g st a w → ∀ Q : Exit → Act → World → Prop,
  (∀ g' st' a' w', K st' → Mod C g' st' a' w' → Q .normal a' w') → wpListIn (Fx C.pin.ho.ro) 0 C.P all.toArray Q l a w
 | [], st, K, _, h, _, g, a, w, hm, Q, hQ => hQ g st a w h hm
 | o :: l, st, K, _, h, hd, g, a, w, hm, Q, hQ => by
  simp only [runOps] at h
  simp only [dstOps, List.all_cons, Bool.and_eq_true] at hd
  have hdo : ∀ t, o.dst = some t → t < C.N := fun t ht => by have := hd.1; rw [ht] at this; simpa using this
  have hd2 : dstOps C.N l = true := hd.2
  have run : ∀ {st1 : St}, Mod C g st1 a w → opX T C o.op st1 (fun v st' => runOps T C all l (st'.put o.dst v) K ⟨⟩) ⟨⟩ → ∀ KK : Act → World → Prop, (∀ a w, wpListIn (Fx C.pin.ho.ro) 0 C.P all.toArray Q l a w → KK a w) → o.wpIn (Fx C.pin.ho.ro) 0 C.P a w KK Q := fun {st1} hm h KK hKK => by
   have := (op_sound hT rfl h g a w hm.tm hm.mem Q).2 (fun c hc => by rw [hc] at h; simp [opX, qX] at h)
   refine Oper.wpIn_mono (fun a' w' ⟨g', st', v, u, k1, k2, k3, k4, k5, _⟩ => ?_) this
   subst k2
   exact hKK _ _ (ops_sound hT all l _ K k1 hd2 g' _ w' ⟨k4.put hdo k3, k5.put _ _⟩ Q hQ)
  cases hg : o.guard with
  | none =>
   rw [hg] at h
   refine wpListIn_step fun KK hKK => ?_
   rw [if_pos (by simp [Region.wanted, hg])]
   exact run hm h KK hKK
  | some q =>
   obtain ⟨j, b⟩ := q
   rw [hg] at h
   obtain ⟨st1, hm1, ⟨hw, h⟩ | ⟨hw, h⟩⟩ := gX_sound h hm hg
   ·refine wpListIn_step fun KK hKK => ?_
    rw [if_pos hw]
    exact run hm1 h KK hKK
   ·refine wpListIn_step fun KK hKK => ?_
    rw [if_neg (by simp [hw])]
    refine ⟨fun f _ => Fx_fn _ f, ?_⟩
    exact hKK _ _ (ops_sound hT all l _ K h hd2 g _ w ⟨hm1.tm.put hdo ⟨#[], rfl, by simp [rels]⟩, hm1.mem.put _ _⟩ Q hQ)

theorem code_sound (hT : TabOk C.P T) : ∀ (c : Code) (st : St) (K : Exit → St → Prop) {lk : Lk (T, C, c, K)}, dstOk C.N c = true → runC T C c st K lk → W C c st K
 | .skip, st, K, _, _, h => fun g a w hm => wpIn_skip ⟨g, st, h, hm⟩
 | .region i ops false, st, K, _, hd, h => fun g a w hm => by
  refine wpIn_region_list ?_
  have := ops_sound hT ops.toList ops.toList st (K .normal) h hd g a w hm (fun e a' w' => ∃ g' st', K e st' ∧ Mod C g' st' a' w') (fun g' st' a' w' h1 h2 => ⟨g', st', h1, h2⟩)
  simpa using this
 | .region i ops true, st, K, _, hd, h => fun g a w hm => by
  have := h hd i g a w hm
  refine wpIn_mono this fun e a' w' ⟨he, g', st', h1, h2⟩ => ?_
  subst he; exact ⟨g', st', h1, h2⟩
 | .seq x y, st, K, _, hd, h => fun g a w hm => by
  simp only [dstOk, Bool.and_eq_true] at hd
  refine wpIn_seq ?_
  refine wpIn_mono (code_sound hT x st _ hd.1 h g a w hm) fun e a' w' ⟨g', st', h1, h2⟩ => ?_
  cases e
  case normal => exact code_sound hT y st' K hd.2 h1 g' a' w' h2
  all_goals exact ⟨g', st', h1, h2⟩
 | .cond c x y, st, K, _, hd, h => fun g a w hm => by
  simp only [dstOk, Bool.and_eq_true] at hd
  have e := rel_ev hm.tm c
  simp only [runC] at h
  unfold condX at h
  split at h <;> rename_i hx
  ·rw [hx] at e
   exact wpIn_cond_split e (fun hb => code_sound hT x st K hd.1 (h.1 hb) g a w hm) (fun hb => code_sound hT y st K hd.2 (h.2 hb) g a w hm)
  ·exact h.elim
 | .block i c, st, K, _, hd, h => fun g a w hm => by
  refine wpIn_block ?_
  refine wpIn_mono (code_sound hT c st _ hd h g a w hm) fun e a' w' ⟨g', st', h1, h2⟩ => ?_
  cases e
  case exit j =>
   simp only [Exit.inBlock]
   simp only [] at h1
   split at h1 <;> rename_i hj
   ·rw [if_pos hj]; exact ⟨g', st', h1, h2⟩
   ·rw [if_neg hj]; exact ⟨g', st', h1, h2⟩
  all_goals exact ⟨g', st', h1, h2⟩
 | .exit i, st, K, _, _, h => fun g a w hm => wpIn_exit ⟨g, st, h, hm⟩
 | .ret, st, K, _, _, h => fun g a w hm => wpIn_ret ⟨g, st, h, hm⟩
 | .loop c, st, K, _, hd, h => h hd
 | .rangeFunc f ps x y, st, K, _, hd, h => h hd
 | .scope _, _, _, _, hd, _ => by simp [dstOk] at hd
 | .label _, _, _, _, hd, _ => by simp [dstOk] at hd
 | .goto _, _, _, _, hd, _ => by simp [dstOk] at hd
 | .refuse _, _, _, _, hd, _ => by simp [dstOk] at hd

/-! ### loops -/
/-- What holds of a state holds of another one: the other forgets, and may number anew. -/
def StLe (C : Cx) (st st' : St) : Prop := ∀ g a w, Mod C g st a w → ∃ g', Mod C g' st' a w

def loopK {α : Type} (C : Cx) (I : α → St) (J : α → Prop) (m : α → Nat) (x : α) (K : Exit → St → Prop) (e : Exit) (st : St) : Prop :=
 match e with
 | .normal => ∃ y, StLe C st (I y) ∧ J y ∧ m y < m x
 | e => K e st

theorem LoopW.inv {α : Type} (hT : TabOk C.P T) (I : α → St) (J : α → Prop) (m : α → Nat) {c : Code} {st : St} {K : Exit → St → Prop} (x0 : α) (h0 : StLe C st (I x0)) (hJ : J x0)
  (h : ∀ x, J x → runC T C c (I x) (loopK C I J m x K) ⟨⟩) : LoopW C c st K ⟨⟩ := fun hd g a w hm => by
 refine wpIn_loop_ghost (fun n a' w' => ∃ x g', J x ∧ m x = n ∧ Mod C g' (I x) a' w') (m x0) ?_ ?_
 ·obtain ⟨g', h1⟩ := h0 g a w hm; exact ⟨x0, g', hJ, rfl, h1⟩
 ·rintro n a w ⟨x, g', hx, rfl, hm⟩
  refine wpIn_mono (code_sound hT c (I x) _ hd (h x hx) g' a w hm) fun e a' w' ⟨g1, st1, h1, h2⟩ => ?_
  cases e
  case normal =>
   obtain ⟨y, h3, h4, h5⟩ := h1
   obtain ⟨g2, h6⟩ := h3 g1 a' w' h2
   exact ⟨m y, h5, y, g2, h4, rfl, h6⟩
  all_goals exact ⟨g1, st1, h1, h2⟩

/-! ### forgetting and renumbering -/
def idxN : List Nat → Nat → Option Nat
 | [], _ => none
 | x :: l, k => if x = k then some 0 else (idxN l k).map (· + 1)
def idxO : List (Option Nat) → Nat → Option Nat
 | [], _ => none
 | x :: l, k => if x = some k then some 0 else (idxO l k).map (· + 1)

theorem idxN_of : ∀ {l : List Nat} {k j : Nat}, l.Nodup → l[j]? = some k → idxN l k = some j
 | x :: l, k, 0, _, h => by simp at h; simp [idxN, h]
 | x :: l, k, j + 1, hn, h => by
  simp only [List.nodup_cons] at hn
  have hk : l[j]? = some k := by simpa using h
  have hne : x ≠ k := fun e => hn.1 (e ▸ List.mem_of_getElem? hk)
  simp [idxN, hne, idxN_of hn.2 hk]
/-- no row is named twice. -/
def NodupO (l : List (Option Nat)) : Prop := ∀ i j k : Nat, l[i]? = some (some k) → l[j]? = some (some k) → i = j
theorem NodupO.of_filter {l : List (Option Nat)} (h : (l.filterMap id).Nodup) : NodupO l := by
 induction l with
 | nil => intro i j k hi; simp at hi
 | cons x l ih =>
  intro i j k hi hj
  cases x with
  | none =>
   have := ih (by simpa using h)
   cases i with
   | zero => simp at hi
   | succ i => cases j with
    | zero => simp at hj
    | succ j => rw [this i j k (by simpa using hi) (by simpa using hj)]
  | some y =>
   simp only [List.filterMap_cons, id, List.nodup_cons] at h
   have := ih h.2
   have hmem : ∀ {i}, l[i]? = some (some k) → k ∈ l.filterMap id := fun hi => List.mem_filterMap.2 ⟨_, List.mem_of_getElem? hi, rfl⟩
   cases i with
   | zero =>
    cases j with
    | zero => rfl
    | succ j => simp at hi; subst hi; exact absurd (hmem (by simpa using hj)) h.1
   | succ i =>
    cases j with
    | zero => simp at hj; subst hj; exact absurd (hmem (by simpa using hi)) h.1
    | succ j => rw [this i j k (by simpa using hi) (by simpa using hj)]
theorem idxO_some : ∀ {l : List (Option Nat)} {k j : Nat}, idxO l k = some j → l[j]? = some (some k)
 | x :: l, k, j, h => by
  simp only [idxO] at h
  split at h
  ·cases h; simp [*]
  ·simp only [Option.map_eq_some_iff] at h
   obtain ⟨i, hi, rfl⟩ := h
   simpa using idxO_some hi
theorem idxO_isSome : ∀ {l : List (Option Nat)} {k j : Nat}, l[j]? = some (some k) → ∃ i, idxO l k = some i
 | x :: l, k, j, h => by
  by_cases hx : x = some k
  ·exact ⟨0, by simp [idxO, hx]⟩
  ·cases j with
   | zero => simp at h; exact absurd h hx
   | succ j =>
    obtain ⟨i, hi⟩ := idxO_isSome (l := l) (by simpa using h)
    exact ⟨i + 1, by simp [idxO, hx, hi]⟩
 | [], _, _, h => by simp at h

def leT (β : List Nat) (γ : List (Option Nat)) (rw : List Rw) (tm : List (Nat × SV)) : List (Nat × SV) → Prop
 | [] => True
 | (t, y) :: l => leV β γ (norm rw (look tm t)) y ∧ leT β γ rw tm l
def leB1 (β : List Nat) (γ : List (Option Nat)) (rw : List Rw) : Option (Option Bx) → TypeId → List SV → Prop
 | some (some ⟨ty, cs⟩), ty', cs' => ty = ty' ∧ leL β γ (cs.map (norm rw)) cs'
 | _, _, _ => False
def leB (β : List Nat) (γ : List (Option Nat)) (rw : List Rw) (bx : List (Option Bx)) : List (Option Bx) → List Nat → Prop
 | [], [] => True
 | some ⟨ty, cs⟩ :: l, k :: ks => leB1 β γ rw (nth bx k) ty cs ∧ leB β γ rw bx l ks
 | none :: l, _ :: ks => leB β γ rw bx l ks
 | _, _ => False
def leSt (β : List Nat) (γ : List (Option Nat)) (st st' : St) : Prop :=
 leT β γ st.rw st.tm st'.tm ∧ leB β γ st.rw st.bx st'.bx β ∧ leR st.rw st'.rw γ

theorem leB_len {β : List Nat} {γ : List (Option Nat)} {rw : List Rw} {bx : List (Option Bx)} : ∀ {l : List (Option Bx)} {ks : List Nat}, leB β γ rw bx l ks → l.length = ks.length
 | [], [], _ => rfl
 | some ⟨_, _⟩ :: l, _ :: ks, h => by simp [leB_len h.2]
 | none :: l, _ :: ks, h => by simp [leB_len (l := l) (ks := ks) h]
theorem leB_get {β : List Nat} {γ : List (Option Nat)} {rw : List Rw} {bx : List (Option Bx)} : ∀ {l : List (Option Bx)} {ks : List Nat}, leB β γ rw bx l ks → ∀ (j : Nat) (b : Bx), l[j]? = some (some b) → ∃ k cs, ks[j]? = some k ∧ bx[k]? = some (some ⟨b.ty, cs⟩) ∧ leL β γ (cs.map (norm rw)) b.cells
 | some ⟨ty, cs⟩ :: l, k :: ks, h, 0, b, hj => by
  simp at hj; subst hj
  have h1 := h.1
  unfold leB1 at h1
  split at h1
  ·rename_i ty' cs' hk
   rw [nth_eq] at hk
   obtain ⟨rfl, h2⟩ := h1
   exact ⟨k, cs', rfl, hk, h2⟩
  ·exact h1.elim
 | some ⟨ty, cs⟩ :: l, k :: ks, h, j + 1, b, hj => by simpa using leB_get h.2 j b (by simpa using hj)
 | none :: l, k :: ks, h, 0, b, hj => by simp at hj
 | none :: l, k :: ks, h, j + 1, b, hj => by simpa using leB_get (l := l) (ks := ks) h j b (by simpa using hj)
theorem leR_len {rw : List Rw} : ∀ {l : List Rw} {ks : List (Option Nat)}, leR rw l ks → l.length = ks.length
 | [], [], _ => rfl
 | .own .. :: l, some _ :: ks, h => by simp [leR_len h.2]
 | .own .. :: l, none :: ks, h => by simp [leR_len h.2.2]
 | .gh .. :: l, some _ :: ks, h => by simp [leR_len h.2]
theorem leR_get0 {rw : List Rw} : ∀ {l : List Rw} {ks : List (Option Nat)}, leR rw l ks → ∀ (j : Nat) (x : Rw), l[j]? = some x → (∃ e s els, x = .own e s els ∧ ((∃ r, ks[j]? = some (some r) ∧ rw[r]? = some (.own e s els)) ∨ (ks[j]? = some none ∧ els = [] ∧ 0 < s))) ∨ ∃ s ys r, x = .gh s ys ∧ ks[j]? = some (some r) ∧ rw[r]? = some (.gh s ys)
 | .own e s els :: l, some r :: ks, h, 0, x, hj => by
  simp at hj; subst hj
  have h1 := h.1
  unfold leR1 at h1
  split at h1
  ·rename_i e' s' els' hk
   rw [nth_eq] at hk
   obtain ⟨rfl, rfl, rfl⟩ := h1
   exact .inl ⟨_, _, _, rfl, .inl ⟨r, rfl, hk⟩⟩
  ·exact h1.elim
 | .own e s els :: l, none :: ks, h, 0, x, hj => by
  simp at hj; subst hj
  exact .inl ⟨_, _, _, rfl, .inr ⟨rfl, h.1, h.2.1⟩⟩
 | .own e s els :: l, some r :: ks, h, j + 1, x, hj => by simpa using leR_get0 h.2 j x (by simpa using hj)
 | .own e s els :: l, none :: ks, h, j + 1, x, hj => by simpa using leR_get0 h.2.2 j x (by simpa using hj)
 | .gh s ys :: l, some r :: ks, h, 0, x, hj => by
  simp at hj; subst hj
  have h1 := h.1
  unfold leG at h1
  split at h1
  ·rename_i s' ys' hk
   rw [nth_eq] at hk
   obtain ⟨rfl, rfl⟩ := h1
   exact .inr ⟨_, _, r, rfl, rfl, hk⟩
  ·exact h1.elim
 | .gh s ys :: l, some r :: ks, h, j + 1, x, hj => by simpa using leR_get0 h.2 j x (by simpa using hj)
theorem leR_get {rw : List Rw} {l : List Rw} {ks : List (Option Nat)} (h : leR rw l ks) (j : Nat) (x : Rw) (hj : l[j]? = some x) (hx : ∀ s ys, x ≠ .gh s ys := by intro _ _ h; cases h) : ∃ e s els, x = .own e s els ∧ ((∃ r, ks[j]? = some (some r) ∧ rw[r]? = some (.own e s els)) ∨ (ks[j]? = some none ∧ els = [] ∧ 0 < s)) := by
 rcases leR_get0 h j x hj with h1 | ⟨s, ys, _, h1, _⟩
 ·exact h1
 ·exact (hx _ _ h1).elim
theorem leR_gh {rw : List Rw} {l : List Rw} {ks : List (Option Nat)} (h : leR rw l ks) (j : Nat) (s : Bool) (ys : List (List SV)) (hj : l[j]? = some (Rw.gh s ys)) : ∃ r : Nat, rw[r]? = some (Rw.gh s ys) := by
 rcases leR_get0 h j _ hj with ⟨_, _, _, h1, _⟩ | ⟨s', ys', r, h1, _, h2⟩
 ·cases h1
 ·cases h1; exact ⟨r, h2⟩

def Gh.ren (g : Gh) (β : List Nat) (γ : List (Option Nat)) : Gh where
 nb := β.length
 nr := γ.length
 ρ := fun k => g.ρ (β.getD k 0)
 σ := fun k => match γ.getD k none with
  | some r => g.σ r
  | none => .slice none 0 0
 tag := fun b => match g.tag b with
  | .imm => .imm
  | .box k => match idxN β k with
   | some j => .box j
   | none => .imm
  | .row k => match idxO γ k with
   | some j => .row j
   | none => .imm
 μ := g.μ
 fo := g.fo
 wy := g.wy
 mp := g.mp

mutual
theorem rel_ren {g : Gh} {β : List Nat} {γ : List (Option Nat)} : ∀ (x y : SV) (u : Value), rel g x u → leV β γ x y → rel (g.ren β γ) y u
 | .any, y, u, h, hl => by cases y <;> first | exact trivial | simp [leV] at hl
 | .v x, y, u, h, hl => by
  cases y with
  | any => exact trivial
  | v y => simp only [rel, leV] at h hl ⊢; rw [h, hl]
  | sl b s els =>
   simp only [rel, leV, Rd] at h hl ⊢
   obtain ⟨rfl, rfl⟩ := hl
   exact ⟨none, 0, h, by simp, by simp [RdE]⟩
  | row k' =>
   simp only [leV, nth_eq] at hl
   simp only [rel] at h
   refine ⟨by rw [h, hl.1]; simp [Gh.ren, List.getD_eq_getElem?_getD, hl.2], Or.inl ⟨none, 0, 0, by rw [h, hl.1]⟩, (List.getElem?_eq_some_iff.1 hl.2).1⟩
  | _ => simp [leV] at hl
 | .sl b s els, y, u, h, hl => by
  cases y with
  | any => exact trivial
  | sl b' s' els' => simp only [leV] at hl; obtain ⟨rfl, rfl, rfl⟩ := hl; exact h
  | _ => simp [leV] at hl
 | .pt b cs, y, u, h, hl => by
  cases y with
  | any => exact trivial
  | pt b' cs' => simp only [leV] at hl; obtain ⟨rfl, rfl⟩ := hl; exact h
  | _ => simp [leV] at hl
 | .box k o, y, u, h, hl => by
  cases y with
  | any => exact trivial
  | box k' o' =>
   simp only [leV, nth_eq] at hl
   obtain ⟨rfl, hk⟩ := hl
   refine ⟨by rw [h.1]; simp [Gh.ren, List.getD_eq_getElem?_getD, hk], ?_⟩
   exact (List.getElem?_eq_some_iff.1 hk).1
  | _ => simp [leV] at hl
 | .row k, y, u, h, hl => by
  cases y with
  | any => exact trivial
  | row k' =>
   simp only [leV, nth_eq] at hl
   refine ⟨by rw [h.1]; simp [Gh.ren, List.getD_eq_getElem?_getD, hl], h.2.1, (List.getElem?_eq_some_iff.1 hl).1⟩
  | _ => simp [leV] at hl
 | .relt .., y, u, h, hl => by cases y <;> first | exact trivial | simp [leV] at hl
 | .agg l, y, u, ⟨cs, h1, h2⟩, hl => by
  cases y with
  | any => exact trivial
  | agg l' => exact ⟨cs, h1, rels_ren l l' _ h2 (by simpa only [leV] using hl)⟩
  | _ => simp [leV] at hl
 | .tup l, y, u, ⟨cs, h1, h2⟩, hl => by
  cases y with
  | any => exact trivial
  | tup l' => exact ⟨cs, h1, rels_ren l l' _ h2 (by simpa only [leV] using hl)⟩
  | _ => simp [leV] at hl
 | .clo f l, y, u, ⟨cs, h1, h2⟩, hl => by
  cases y with
  | any => exact trivial
  | clo f' l' =>
   simp only [leV] at hl
   obtain ⟨rfl, hl⟩ := hl
   exact ⟨cs, h1, rels_ren l l' _ h2 hl⟩
  | _ => simp [leV] at hl
 | .arm, y, u, h, hl => by cases y <;> first | exact trivial | simp [leV] at hl
 | .ali k v, y, u, h, hl => by
  cases y with
  | any => exact trivial
  | ali k' u' =>
   simp only [leV, nth_eq] at hl
   obtain ⟨hl, rfl⟩ := hl
   refine ⟨by rw [h.1]; simp [Gh.ren, List.getD_eq_getElem?_getD, hl], h.2.1, (List.getElem?_eq_some_iff.1 hl).1⟩
  | _ => simp [leV] at hl
 | .glo i cs, y, u, h, hl => by
  cases y with
  | any => exact trivial
  | glo i' cs' => simp only [leV] at hl; obtain ⟨rfl, rfl⟩ := hl; exact h
  | _ => simp [leV] at hl
 | .bxa k b, y, u, h, hl => by
  cases y with
  | any => exact trivial
  | bxa k' b' =>
   simp only [leV, nth_eq] at hl
   obtain ⟨hk, rfl⟩ := hl
   refine ⟨by rw [h.1]; simp [Gh.ren, List.getD_eq_getElem?_getD, hk], ?_⟩
   exact (List.getElem?_eq_some_iff.1 hk).1
  | _ => simp [leV] at hl
 | .cap .., y, u, h, hl => by cases y <;> first | exact trivial | simp [leV] at hl
theorem rels_ren {g : Gh} {β : List Nat} {γ : List (Option Nat)} : ∀ (l l' : List SV) (us : List Value), rels g l us → leL β γ l l' → rels (g.ren β γ) l' us
 | [], [], [], _, _ => trivial
 | x :: l, y :: l', u :: us, h, hl => by
  simp only [leL] at hl
  exact ⟨rel_ren x y u h.1 hl.1, rels_ren l l' us h.2 hl.2⟩
 | [], _ :: _, _, _, hl => by simp [leL] at hl
 | _ :: _, [], _, _, hl => by simp [leL] at hl
 | [], [], _ :: _, h, _ => h.elim
 | _ :: _, _ :: _, [], h, _ => h.elim
end

theorem leT_look {β : List Nat} {γ : List (Option Nat)} {rw : List Rw} {tm : List (Nat × SV)} : ∀ {l : List (Nat × SV)}, leT β γ rw tm l → ∀ t, leV β γ (norm rw (look tm t)) (look l t)
 | [], _, t => by simp only [look]; rw [leV_any]; trivial
 | (t', y) :: l, h, t => by
  simp only [look]
  split
  ·rename_i e; subst e; exact h.1
  ·exact leT_look h.2 t

theorem rels_norm {C : Cx} {g : Gh} {st : St} {a : Act} (h : TmOk C g st a) : ∀ {l : List SV} {us : List Value}, rels g l us → rels g (l.map (norm st.rw)) us
 | [], [], h => h
 | _ :: _, _ :: _, hr => ⟨rel_norm h hr.1, rels_norm h hr.2⟩
 | [], _ :: _, h => h.elim
 | _ :: _, [], h => h.elim

theorem ren_rows {C : Cx} {g : Gh} {st : St} {a : Act} {w : World} (hm : Mod C g st a w) {β : List Nat} {γ : List (Option Nat)} {rw2 : List Rw} (hγ : NodupO γ) (h3 : leR st.rw rw2 γ) : ∀ k e s els, rw2[k]? = some (.own e s els) → RowOk g.μ C.w0.heap.size w ((g.ren β γ).σ k) e s els ∧ ∀ b, ob ((g.ren β γ).σ k) = some b → (g.ren β γ).tag b = .row k := fun k e s els hk => by
 obtain ⟨e', s', els', he, hc⟩ := leR_get h3 k _ hk
 cases he
 rcases hc with ⟨r, hr, hrw⟩ | ⟨hr, rfl, hs0⟩
 ·have hσ : (g.ren β γ).σ k = g.σ r := by simp [Gh.ren, List.getD_eq_getElem?_getD, hr]
  obtain ⟨m1, m2⟩ := hm.mem.row _ _ _ _ hrw
  rw [hσ]
  refine ⟨m1, fun b hb => ?_⟩
  obtain ⟨j, hj⟩ := idxO_isSome hr
  have := hγ _ _ _ (idxO_some hj) hr
  simp only [Gh.ren, m2 b hb, hj, this]
 ·have hσ : (g.ren β γ).σ k = .slice none 0 0 := by simp [Gh.ren, List.getD_eq_getElem?_getD, hr]
  rw [hσ]
  exact ⟨.inl ⟨hs0, [], World.ownsRow_nil _ _ _ _, by simp, by simp [RdLL]⟩, fun b hb => by simp [ob, Value.ownBlock] at hb⟩

theorem StLe.of {st st' : St} (β : List Nat) (γ : List (Option Nat)) (hβ : β.Nodup) (hγ : (γ.filterMap id).Nodup) (h : leSt β γ st st') (hpB : ((List.range C.pin.nb).all fun k => β[k]? == some k) = true) (hpR : ((List.range C.pin.nr).all fun k => γ[k]? == some (some k)) = true) : StLe C st st' := fun g a w hm => by
 have hp : (∀ k, k < C.pin.nb → β[k]? = some k) ∧ ∀ k, k < C.pin.nr → γ[k]? = some (some k) := ⟨fun k hk => by simpa using List.all_eq_true.1 hpB k (List.mem_range.2 hk), fun k hk => by simpa using List.all_eq_true.1 hpR k (List.mem_range.2 hk)⟩
 obtain ⟨h1, h2, h3⟩ := h
 have hγ := NodupO.of_filter hγ
 refine ⟨g.ren β γ, ⟨(leB_len h2).symm, (leR_len h3).symm, hm.tm.defers, hm.tm.size, fun t => rel_ren _ _ _ (rel_norm hm.tm (hm.tm.tm t)) (leT_look h1 t), fun k s e hk => ?_, ?_⟩, hm.mem.os, hm.mem.tape, hm.mem.output, hm.mem.size, fun q b hb => ⟨(hm.mem.old q b hb).1, ?_⟩, fun b hb => ?_, fun k b hk => ?_, ren_rows hm hγ h3, fun f => ⟨(hm.mem.imm f).1, fun b o hb => ?_⟩, hm.mem.keep, fun b hb => ⟨by simp only [Gh.ren, (hm.mem.np b hb).1], (hm.mem.np b hb).2⟩, hm.mem.hs.next rfl rfl rfl (Nat.le_refl _) (fun _ _ _ ho => .inl ho) fun k s ys hk => leR_gh h3 k s ys hk⟩
 ·obtain ⟨_, _, _, he, _⟩ := leR_get h3 k _ hk
  cases he
 ·refine ⟨?_, ?_, fun k hk => ?_, fun k hk => ?_, hm.tm.pin.μ⟩
  ·show C.pin.nb ≤ β.length
   by_cases h0 : C.pin.nb = 0
   ·omega
   ·have := hp.1 (C.pin.nb - 1) (by omega)
    have := (List.getElem?_eq_some_iff.1 this).1
    omega
  ·show C.pin.nr ≤ γ.length
   by_cases h0 : C.pin.nr = 0
   ·omega
   ·have := hp.2 (C.pin.nr - 1) (by omega)
    have := (List.getElem?_eq_some_iff.1 this).1
    omega
  ·rw [← hm.tm.pin.ρ k hk]; simp [Gh.ren, List.getD_eq_getElem?_getD, hp.1 k hk]
  ·rw [← hm.tm.pin.σ k hk]; simp [Gh.ren, List.getD_eq_getElem?_getD, hp.2 k hk]
 ·simp only [Gh.ren, (hm.mem.old q b hb).2]
 ·simp only [Gh.ren, hm.mem.fresh b hb]
 ·obtain ⟨k', cs, e1, e2, e3⟩ := leB_get h2 k b hk
  obtain ⟨m1, c, m2, m3⟩ := hm.mem.box _ _ e2
  have hρ : (g.ren β γ).ρ k = g.ρ k' := by simp [Gh.ren, List.getD_eq_getElem?_getD, e1]
  refine ⟨?_, c, by rw [hρ]; exact m2, rels_ren _ _ _ (rels_norm hm.tm m3) e3⟩
  rw [hρ]
  simp only [Gh.ren, m1, idxN_of hβ e1]
 ·simp only [Gh.ren, (hm.mem.imm f).2 b o hb]

/-! ### contracts -/
/-- What a call leaves: the result, and of new memory what is known of it. -/
structure RetOk (w w' : World) (kp : Hp) (r : Ret) (v : Value) : Prop where
 below : Below w.heap.size w w'
 mem : ∃ g : Gh, g.nb = 0 ∧ g.nr = r.rw.length ∧ rel g r.v v ∧ (∀ b, b < w.heap.size ∨ w'.heap.size ≤ b → g.tag b = .imm) ∧
  (∀ (k : Nat) (x : Rw), r.rw[k]? = some x → ∃ ety size els, x = Rw.own ety size els) ∧
  (∀ (k : Nat) (ety : TypeId) (size : Nat) (els : List (List D)), r.rw[k]? = some (Rw.own ety size els) → RowOk g.μ w.heap.size w' (g.σ k) ety size els ∧ ∀ b, ob (g.σ k) = some b → g.tag b = .row k) ∧
  (g.μ true).In w' ∧ (∀ b o, g.μ true b = some o → g.tag b = .imm ∧ (w.heap.size ≤ b ∨ ∃ o', kp b = some o')) ∧ g.μ false = fun _ => none

def muOf (kp : Hp) (w : World) : Mu := fun f => if f then kp else fun b => w.heap[b]?
def gh0 (kp : Hp) (w : World) : Gh := ⟨0, 0, fun _ => 0, fun _ => .nilFunc, fun _ => .imm, muOf kp w, fun b => decide (b < w.heap.size), w, fun _ => false⟩
/-- The contract of a function: arguments that are data (what is lent: marked false; what the result may share: true). -/
def Ctr (P : Program) (f : FuncId) (args : List SV) (post : Ret → Prop) : Prop :=
 Ent P f ∧ ∀ (w : World) (kp : Hp), kp.In w → ∀ vs, rels (gh0 kp w) args vs → Calls P f vs.toArray w (fun e w' => ∃ v r, e = .returned v ∧ post r ∧ RetOk w w' kp r v)

mutual
def shV (n : Nat) : SV → SV
 | .row k => .row (k + n)
 | .relt k i s o => .relt (k + n) i s o
 | .agg l => .agg (shL n l)
 | .tup l => .tup (shL n l)
 | .clo f l => .clo f (shL n l)
 | .ali k u => .ali (k + n) u
 | x => x
def shL (n : Nat) : List SV → List SV
 | [] => []
 | x :: l => shV n x :: shL n l
end
def extSt (st : St) (r : Ret) : St := { st with rw := st.rw ++ r.rw }

def Gh.join (g gr : Gh) (N : Nat) : Gh where
 nb := g.nb
 nr := g.nr + gr.nr
 ρ := g.ρ
 σ := fun k => if k < g.nr then g.σ k else gr.σ (k - g.nr)
 tag := fun b => if b < N then g.tag b else match gr.tag b with
  | .row k => .row (k + g.nr)
  | _ => .imm
 μ := fun f => if f then (g.μ true).join (gr.μ true) else g.μ false
 fo := g.fo
 wy := g.wy
 mp := g.mp
theorem Gh.le_join (g gr : Gh) (N : Nat) : g.Le (g.join gr N) := ⟨Nat.le_refl _, Nat.le_add_right _ _, fun _ _ => rfl, fun k hk => by simp [Gh.join, hk], fun f => by
 cases f
 ·exact .refl _
 ·exact Hp.le_join_left _ _⟩

mutual
theorem rel_join {g gr : Gh} {N : Nat} (h0 : gr.nb = 0) (hμ : gr.μ.Le (g.join gr N).μ) : ∀ (v : SV) (u : Value), rel gr v u → rel (g.join gr N) (shV g.nr v) u
 | .any, _, _ => by simp [shV, rel]
 | .v _, _, h => by simp only [shV]; exact h
 | .sl .., _, h => by simp only [shV]; exact Rd.mono hμ _ _ h
 | .pt .., _, h => by simp only [shV]; exact Rd.mono hμ _ _ h
 | .box k _, _, h => by have := h.2; omega
 | .row k, u, h => by
  simp only [shV]
  have hlt : ¬ k + g.nr < g.nr := by omega
  exact ⟨by rw [h.1]; simp [Gh.join, hlt], h.2.1, by have := h.2.2; simp [Gh.join]; omega⟩
 | .relt k i s o, u, ⟨b, h1, h2, h3⟩ => by
  simp only [shV]
  have hlt : ¬ k + g.nr < g.nr := by omega
  exact ⟨b, by simpa [Gh.join, hlt] using h1, h2, by simp [Gh.join]; omega⟩
 | .agg l, u, ⟨cs, h1, h2⟩ => by simp only [shV]; exact ⟨cs, h1, rels_join h0 hμ l _ h2⟩
 | .tup l, u, ⟨cs, h1, h2⟩ => by simp only [shV]; exact ⟨cs, h1, rels_join h0 hμ l _ h2⟩
 | .clo _ l, u, ⟨cs, h1, h2⟩ => by simp only [shV]; exact ⟨cs, h1, rels_join h0 hμ l _ h2⟩
 | .arm, _, _ => by simp [shV, rel]
 | .ali k v, u, h => by
  simp only [shV]
  have hlt : ¬ k + g.nr < g.nr := by omega
  exact ⟨by rw [h.1]; simp [Gh.join, hlt], h.2.1, by have := h.2.2; simp [Gh.join]; omega⟩
 | .bxa k b, _, h => by have := h.2; omega
 | .glo .., _, h => by simp only [shV]; exact RdC.mono hμ _ _ _ _ h
 | .cap .., _, h => by simp only [shV]; exact ⟨Rd.mono hμ _ _ h.1, h.2⟩
theorem rels_join {g gr : Gh} {N : Nat} (h0 : gr.nb = 0) (hμ : gr.μ.Le (g.join gr N).μ) : ∀ (l : List SV) (us : List Value), rels gr l us → rels (g.join gr N) (shL g.nr l) us
 | [], [], _ => by simp [shL, rels]
 | x :: l, u :: us, h => by simp only [shL]; exact ⟨rel_join h0 hμ x u h.1, rels_join h0 hμ l us h.2⟩
 | [], _ :: _, h => h.elim
 | _ :: _, [], h => h.elim
end

theorem ext_okG {g gr : Gh} {a : Act} {w w' : World} (ht : TmOk C g st a) (hm : Mem C g st w) {r : Ret} (hb : Below w.heap.size w w') (r0 : gr.nb = 0) (r1 : gr.nr = r.rw.length) (r3 : ∀ b, b < w.heap.size ∨ w'.heap.size ≤ b → gr.tag b = .imm)
  (rf : ∀ (k : Nat) (x : Rw), r.rw[k]? = some x → ∃ ety size els, x = Rw.own ety size els) (r4 : ∀ (k : Nat) (ety : TypeId) (size : Nat) (els : List (List D)), r.rw[k]? = some (Rw.own ety size els) → RowOk gr.μ w.heap.size w' (gr.σ k) ety size els ∧ ∀ b, ob (gr.σ k) = some b → gr.tag b = .row k)
  (r5 : (gr.μ true).In w') (r6 : ∀ b o, gr.μ true b = some o → gr.tag b = .imm ∧ (w.heap.size ≤ b ∨ ∃ o', g.μ true b = some o')) (r7 : gr.μ false = fun _ => none) :
  (∀ x u, rel gr x u → rel (g.join gr w.heap.size) (shV st.rw.length x) u) ∧ TmOk C (g.join gr w.heap.size) (extSt st r) a ∧ Mem C (g.join gr w.heap.size) (extSt st r) w' ∧ g.Le (g.join gr w.heap.size) := by
 have hE := hm.ext hb
 have hle := g.le_join gr w.heap.size
 have hμt : (g.join gr w.heap.size).μ true = (g.μ true).join (gr.μ true) := rfl
 have hμf : (g.join gr w.heap.size).μ false = g.μ false := rfl
 have hμ : gr.μ.Le (g.join gr w.heap.size).μ := fun f => by
  cases f
  ·rw [r7]; intro b o h; cases h
  ·rw [hμt]; exact Hp.le_join_right (hE.imm true).1 r5
 have hget : ∀ k x, (st.rw ++ r.rw)[k]? = some x → (k < g.nr ∧ st.rw[k]? = some x) ∨ (g.nr ≤ k ∧ r.rw[k - g.nr]? = some x) := fun k x hk => by
  rw [List.getElem?_append] at hk
  rw [ht.nr]
  split at hk
  ·exact .inl ⟨by assumption, hk⟩
  ·exact .inr ⟨by omega, hk⟩
 have htagI : ∀ b, b < w.heap.size → g.tag b = .imm → (g.join gr w.heap.size).tag b = .imm := fun b h1 h2 => by simp only [Gh.join, h1, if_true, h2]
 refine ⟨fun x u h => by rw [← ht.nr]; exact rel_join r0 hμ _ _ h, ⟨ht.nb, by simp [Gh.join, extSt, ht.nr, r1], ht.defers, ht.size, fun t => rel_mono hle _ _ (ht.tm t), fun k s e hk => ?_, ht.pin.mono hle⟩, ⟨hE.os, hE.tape, hE.output, hE.size, fun q b hlt => ⟨(hE.old q b hlt).1, htagI b (hm.hs.lt q b hlt) (hm.old q b hlt).2⟩, fun b hlt => ?_, fun k bx hk => ?_, fun k e s els hk => ?_, fun f => ?_, fun b o hbo => ?_, fun b hb' => ⟨htagI b (hm.np b hb').2 (hm.np b hb').1, Nat.lt_of_lt_of_le (hm.np b hb').2 hb.size⟩, hm.hs.next rfl rfl rfl hb.size (fun f b o hbo => ?_) (fun k s ys hk => ?_)⟩, hle⟩
 ·rcases hget k _ hk with ⟨hlt, hk⟩ | ⟨hge, hk⟩
  ·have := (ht.frz k s e hk).mono hle.μ
   simpa [Gh.join, hlt] using this
  ·obtain ⟨_, _, _, h⟩ := rf _ _ hk; cases h
 ·have h1 : ¬ b < w.heap.size := by have := hb.size; omega
  simp only [Gh.join, h1, if_false, r3 b (.inr hlt)]
 ·obtain ⟨h1, cs, h2, h3⟩ := hE.box k bx hk
  have hlt := hm.nbox_lt hk
  exact ⟨by show (if g.ρ k < w.heap.size then _ else _) = _; rw [if_pos hlt]; exact h1, cs, h2, rels_mono hle _ _ h3⟩
 ·rcases hget k _ hk with ⟨hlt, hk⟩ | ⟨hge, hk⟩
  ·obtain ⟨h1, h2⟩ := hE.row _ _ _ _ hk
   have hl := (hm.row _ _ _ _ hk).1.lt
   have hσ : (g.join gr w.heap.size).σ k = g.σ k := by simp [Gh.join, hlt]
   rw [hσ]
   exact ⟨h1.mono hle.μ, fun b hb' => by simp only [Gh.join, (hl b hb').2, if_true]; exact h2 b hb'⟩
  ·obtain ⟨h1, h2⟩ := r4 _ _ _ _ hk
   have hσ : (g.join gr w.heap.size).σ k = gr.σ (k - g.nr) := by simp [Gh.join, Nat.not_lt.2 hge]
   rw [hσ]
   have hbase : RowOk gr.μ C.w0.heap.size w' (gr.σ (k - g.nr)) e s els := by
    rcases h1 with ⟨hs0, vss, hown, hrest⟩ | ⟨hs0, b, ents, clk, hv, hbb, hrest⟩
    ·refine .inl ⟨hs0, vss, ⟨hown.1, ?_⟩, hrest⟩
     rcases hown.2 with hn | ⟨gg, cap, cur, hv, hbb, hrest⟩
     ·exact .inl hn
     ·exact .inr ⟨gg, cap, cur, hv, Nat.le_trans hm.size hbb, hrest⟩
    ·exact .inr ⟨hs0, b, ents, clk, hv, Nat.le_trans hm.size hbb, hrest⟩
   refine ⟨hbase.mono hμ, fun b hb' => ?_⟩
   have hbl := (h1.lt b hb').1
   simp only [Gh.join]
   rw [if_neg (by omega), h2 b hb']
   simp only [Nat.sub_add_cancel hge]
 ·cases f
  ·rw [hμf]; exact ⟨(hE.imm false).1, fun b o hbo => htagI b (heap_lt ((hm.imm false).1 b o hbo)) ((hm.imm false).2 b o hbo)⟩
  ·rw [hμt]
   refine ⟨(hE.imm true).1.join r5, fun b o hbo => ?_⟩
   rcases Hp.join_some hbo with h | h
   ·exact htagI b (heap_lt ((hm.imm true).1 b o h)) ((hm.imm true).2 b o h)
   ·obtain ⟨h3, h4⟩ := r6 b o h
    by_cases hlt : b < w.heap.size
    ·rcases h4 with h4 | ⟨o', h4⟩
     ·omega
     ·exact htagI b hlt ((hm.imm true).2 b o' h4)
    ·simp only [Gh.join, hlt, if_false, h3]
 ·rw [hμt] at hbo
  rcases Hp.join_some hbo with h | h
  ·exact hm.keep b o h
  ·obtain ⟨_, h4⟩ := r6 b o h
   rcases h4 with h4 | ⟨o', h4⟩
   ·refine ⟨.inl (Nat.le_trans hm.size h4), ?_⟩
    cases hnp : C.pin.np b with
    | false => rfl
    | true => have := (hm.np b hnp).2; omega
   ·exact hm.keep b o' h4
 ·cases f
  ·exact .inl hbo
  ·rw [hμt] at hbo
   cases hgb : g.μ true b with
   | some o2 =>
    refine .inl ?_
    have : (g.μ true).join (gr.μ true) b = some o2 := by simp [Hp.join, hgb]
    rw [this] at hbo; exact hbo
   | none =>
    rcases Hp.join_some hbo with h | h
    ·rw [hgb] at h; cases h
    ·obtain ⟨_, h4⟩ := r6 b o h
     rcases h4 with h4 | ⟨o', h4⟩
     ·refine .inr ⟨?_, ?_⟩
      ·cases hmp : g.mp b with
       | false => rfl
       | true => have := hm.hs.lt false b (hm.hs.mp b hmp).1; omega
      ·cases hlp : C.pin.ho.lp b with
       | false => rfl
       | true => have := hm.hs.lt true b (hm.hs.lp b hlp).1; omega
     ·rw [hgb] at h4; cases h4
 ·rcases hget k _ hk with ⟨_, hk⟩ | ⟨_, hk⟩
  ·exact ⟨k, hk⟩
  ·obtain ⟨_, _, _, h⟩ := rf _ _ hk; cases h

theorem ext_ok {g : Gh} {a : Act} {w w' : World} (ht : TmOk C g st a) (hm : Mem C g st w) {r : Ret} {v : Value} (hr : RetOk w w' (g.μ true) r v) :
  ∃ g', rel g' (shV st.rw.length r.v) v ∧ TmOk C g' (extSt st r) a ∧ Mem C g' (extSt st r) w' ∧ g.Le g' := by
 obtain ⟨hb, gr, r0, r1, r2, r3, rf, r4, r5, r6, r7⟩ := hr
 obtain ⟨k1, k2, k3, k4⟩ := ext_okG ht hm hb r0 r1 r3 rf r4 r5 r6 r7
 exact ⟨_, k1 _ _ r2, k2, k3, k4⟩

/-! what a callee sees: own rows and boxes are lent -/
def lenR1 : Option Rw → Option D
 | some (.own _ sz els) => if sz = 0 then none else some (.sl false sz els)
 | some (.frz sz els) => some (.sl true sz els)
 | _ => none
def bxC : Option (Option Bx) → Option (List SV)
 | some (some b) => some b.cells
 | _ => none
def ptO (off : Nat) : Option (List D) → Option D
 | some cs => some (.pt false (dropN off cs))
 | none => none
def allO (f : SV → Option D) : List SV → Option (List D)
 | [] => some []
 | x :: l => consO (f x) (allO f l)
def bindO (f : List SV → Option (List D)) : Option (List SV) → Option (List D)
 | some l => f l
 | none => none
def lendO (rw : List Rw) (bx : List (Option Bx)) : Nat → SV → Option D
 | _, .v x => vD x (oneV x)
 | _, .sl b s e => some (.sl b s e)
 | _, .pt b cs => some (.pt b cs)
 | _, .row k => lenR1 (nth rw k)
 | n + 1, .box k off => ptO off (bindO (allO (lendO rw bx n)) (bxC (nth bx k)))
 | n + 1, .clo f l => (allO (lendO rw bx n) l).map (.clo f ·)
 | _, _ => none
def lendL (rw : List Rw) (bx : List (Option Bx)) (n : Nat) (l : List SV) : Option (List D) := allO (lendO rw bx n) l
def lendA (rw : List Rw) (bx : List (Option Bx)) : SV → Option SV
 | .agg l => (lendL rw bx 12 l).map fun ds => .agg (ofDL ds)
 | .any => some .any
 | x => (lendO rw bx 12 x).map ofD
def argO (x : Option SV) (y : SV) : Prop :=
 match x with
 | some x => leV [] [] x y
 | none => False
def argOk (rw : List Rw) (bx : List (Option Bx)) : List SV → List SV → Prop
 | [], [] => True
 | x :: l, y :: l' => argO (lendA rw bx x) y ∧ argOk rw bx l l'
 | _, _ => False

theorem Rd_row {ν : Mu} {g : Gh} {base : Nat} {w : World} {k ety size : Nat} {els : List (List D)} {f : Bool} (hν : g.μ.Le ν) (hrow : RowOk g.μ base w (g.σ k) ety size els) (hsz : size ≠ 0) (hf : ∀ b, ob (g.σ k) = some b → ∀ o, w.heap[b]? = some o → ν f b = some o) : Rd ν (.sl f size els) (g.σ k) := by
 obtain ⟨hs0, vss, hown, hvs, hrd⟩ := hrow.tab (by omega)
 simp only [Rd]
 rcases hown.2 with ⟨h1, h2⟩ | ⟨gg, cap, cur, h1, hb, hcur, hnc, hcm, hcs, htake⟩
 ·have hl : vss.length = els.length := hrd.len
  have he : els = [] := List.eq_nil_of_length_eq_zero (by omega)
  subst he
  exact ⟨none, 0, by rw [h1]; rfl, Nat.le_refl _, by simp [RdE]⟩
 ·refine ⟨some ⟨gg, 0, none⟩, cap, by rw [h1, hrd.len], by rw [← hrd.len]; exact hnc, RdE.of hs0 (hrd.mono hν) hvs fun j x hj => ⟨_, rfl, ?_⟩⟩
  have hB := hf gg (by rw [h1]; rfl) _ hcur
  rw [← htake, List.getElem?_take] at hj
  split at hj
  ·simp only [Hp.cell, Addr.add_lit, hB]
   simpa using hj
  ·cases hj

theorem allO_ok {ν : Mu} {g : Gh} {F : SV → Option D} (hF : ∀ x d u, F x = some d → rel g x u → Rd ν d u) : ∀ (l : List SV) (ds : List D) (us : List Value), allO F l = some ds → rels g l us → RdL ν ds us
 | [], ds, [], h, _ => by simp [allO] at h; subst h; simp [RdL]
 | x :: l, ds, u :: us, h, hr => by
  simp only [allO] at h
  unfold consO at h
  split at h
  ·rename_i d ds' h1 h2
   cases h
   simp only [RdL]
   exact ⟨hF x d u h1 hr.1, allO_ok hF l ds' us h2 hr.2⟩
  ·cases h
 | [], _, _ :: _, _, h => h.elim
 | _ :: _, _, [], _, h => h.elim

theorem muOf_le {g : Gh} {w : World} (hm : Mem C g st w) : g.μ.Le (muOf (g.μ true) w) := fun f => by
 cases f
 ·exact fun b o h => (hm.imm false).1 b o h
 ·exact .refl _

theorem lendO_ok {g : Gh} {a : Act} {w : World} (ht : TmOk C g st a) (hm : Mem C g st w) : ∀ (n : Nat) (x : SV) (d : D) (u : Value), lendO st.rw st.bx n x = some d → rel g x u → Rd (muOf (g.μ true) w) d u := by
 have hμ := muOf_le hm
 have hrow : ∀ k d u, lenR1 (nth st.rw k) = some d → rel g (.row k) u → Rd (muOf (g.μ true) w) d u := fun k d u h hr => by
  rw [nth_eq] at h
  unfold lenR1 at h
  split at h
  ·rename_i e sz els hk
   split at h
   ·cases h
   rename_i hsz
   cases h
   rw [hr.1]
   exact Rd_row hμ (hm.row _ _ _ _ hk).1 hsz fun b _ o ho => ho
  ·rename_i sz els hk
   cases h
   rw [hr.1]
   exact (ht.frz _ _ _ hk).mono hμ
  ·cases h
 have hv : ∀ x d u, vD x (oneV x) = some d → rel g (.v x) u → Rd (muOf (g.μ true) w) d u := fun x d u h hr => by
  cases ho : oneV x with
  | false => rw [ho] at h; cases h
  | true => rw [ho] at h; cases h; simp only [Rd]; exact ⟨hr, oneV_one ho⟩
 intro n
 induction n with
 | zero =>
  intro x d u h hr
  cases x <;> simp only [lendO] at h <;> try (cases h; done)
  ·exact hv _ _ _ h hr
  ·cases h; exact Rd.mono hμ _ _ hr
  ·cases h; exact Rd.mono hμ _ _ hr
  ·exact hrow _ _ _ h hr
 | succ n ih =>
  intro x d u h hr
  cases x <;> simp only [lendO] at h <;> try (cases h; done)
  ·exact hv _ _ _ h hr
  ·cases h; exact Rd.mono hμ _ _ hr
  ·cases h; exact Rd.mono hμ _ _ hr
  ·rename_i k off
   rw [nth_eq] at h
   cases hk : st.bx[k]? with
   | none => rw [hk] at h; simp [bxC, bindO, ptO] at h
   | some ob =>
    cases ob with
    | none => rw [hk] at h; simp [bxC, bindO, ptO] at h
    | some b =>
     rw [hk] at h
     simp only [bxC, bindO] at h
     cases hds : allO (lendO st.rw st.bx n) b.cells with
     | none => rw [hds] at h; cases h
     | some ds =>
      rw [hds] at h
      cases h
      obtain ⟨_, cs, hcs, hrel⟩ := hm.box _ _ hk
      have hL := allO_ok ih _ _ _ hds hrel
      simp only [Rd]
      refine ⟨⟨g.ρ k, off, none⟩, hr.1, ?_⟩
      have hC : RdC (muOf (g.μ true) w) ds false ⟨g.ρ k, 0, none⟩ 0 := RdC.of hL fun j x hj => by
       simp only [Addr.add_lit, Hp.cell, muOf, Nat.zero_add, Bool.false_eq_true, if_false, hcs]
       simpa using hj
      have := RdC.shift (n := off) (j := 0) (RdC.drop off hC)
      rw [dropN_eq]
      simpa [Addr.add_lit] using this
  ·exact hrow _ _ _ h hr
  ·rename_i f l
   simp only [Option.map_eq_some_iff] at h
   obtain ⟨ds, h1, rfl⟩ := h
   obtain ⟨cs, h2, h3⟩ := hr
   simp only [Rd]
   exact ⟨cs, h2, allO_ok ih _ _ _ h1 h3⟩

theorem gh_le0 {g g' : Gh} (h1 : g.nb = 0) (h2 : g.nr = 0) (h : g.μ.Le g'.μ) : g.Le g' := ⟨by omega, by omega, fun k hk => by omega, fun k hk => by omega, h⟩

theorem lendA_ok {g : Gh} {a : Act} {w : World} (ht : TmOk C g st a) (hm : Mem C g st w) {x y : SV} {u : Value} (h : argO (lendA st.rw st.bx x) y) (hr : rel g x u) : rel (gh0 (g.μ true) w) y u := by
 unfold argO at h
 split at h
 ·rename_i x' hx'
  have h1 : rel (gh0 (g.μ true) w) x' u := by
   unfold lendA at hx'
   split at hx'
   ·rename_i l
    simp only [Option.map_eq_some_iff] at hx'
    obtain ⟨ds, k1, rfl⟩ := hx'
    obtain ⟨cs, k2, k3⟩ := hr
    exact ⟨cs, k2, rels_ofDL _ _ (allO_ok (fun x d u => lendO_ok ht hm 12 x d u) _ _ _ k1 k3)⟩
   ·cases hx'; trivial
   ·simp only [Option.map_eq_some_iff] at hx'
    obtain ⟨d, k1, rfl⟩ := hx'
    exact rel_ofD _ _ (lendO_ok ht hm 12 _ _ _ k1 hr)
  exact rel_mono (gh_le0 (g := (gh0 (g.μ true) w).ren [] []) (g' := gh0 (g.μ true) w) rfl rfl (Mu.Le.refl _)) _ _ (rel_ren _ _ _ h1 h)
 ·exact h.elim
theorem argOk_ok {g : Gh} {a : Act} {w : World} (ht : TmOk C g st a) (hm : Mem C g st w) : ∀ {l l' : List SV} {us : List Value}, argOk st.rw st.bx l l' → rels g l us → rels (gh0 (g.μ true) w) l' us
 | [], [], [], _, _ => trivial
 | x :: l, y :: l', u :: us, h, hr => by
  simp only [argOk] at h
  exact ⟨lendA_ok ht hm h.1 hr.1, argOk_ok ht hm h.2 hr.2⟩
 | [], _ :: _, _, h, _ => by simp [argOk] at h
 | _ :: _, [], _, h, _ => by simp [argOk] at h
 | [], [], _ :: _, _, h => h.elim
 | _ :: _, _ :: _, [], _, h => h.elim

/-- A call is met by its contract. -/
theorem CallI.ctr {f : Nat} {args cargs : List SV} {post : Ret → Prop} (c : Ctr C.P f cargs post) (hv : argOk st.rw st.bx args cargs)
  (h : ∀ r, post r → K (shV st.rw.length r.v) (extSt st r)) : CallI C f args st K ⟨⟩ := fun g a w ht hm vs hr => by
 refine ⟨c.1, (c.2 w (g.μ true) (hm.imm true).1 vs (argOk_ok ht hm hv hr)).mono fun e w' ⟨v, r, he, hp, hro⟩ => ?_⟩
 obtain ⟨g', k1, k2, k3, k4⟩ := ext_ok ht hm hro
 exact ⟨v, he, g', _, _, h r hp, k1, k2, k3, fun _ => ⟨k4, (fr_of hro.below).of _⟩⟩
theorem CallI.fn {f : Nat} {args cargs : List SV} {d : SV} (c : Ctr C.P f cargs (fun r => r = ⟨d, []⟩)) (hv : argOk st.rw st.bx args cargs)
  (h : K (shV st.rw.length d) (extSt st ⟨d, []⟩)) : CallI C f args st K ⟨⟩ := CallI.ctr c hv fun r hr => by subst hr; exact h
theorem Ctr.mono {P : Program} {f : FuncId} {args : List SV} {post post' : Ret → Prop} (c : Ctr P f args post) (h : ∀ r, post r → post' r) : Ctr P f args post' :=
 ⟨c.1, fun w kp hk vs hr => (c.2 w kp hk vs hr).mono fun _ _ ⟨v, r, he, hp, hro⟩ => ⟨v, r, he, h r hp, hro⟩⟩

/-! ### a function -/
def argI : Nat → List SV → List (Nat × SV)
 | _, [] => []
 | n, v :: l => (n, v) :: argI (n + 1) l
theorem argI_look {g : Gh} : ∀ (l : List SV) (us : List Value) (n : Nat), rels g l us → ∀ (t : Nat) (u : Value), (n ≤ t → t < n + us.length → us[t - n]? = some u) → rel g (look (argI n l) t) u
 | [], [], n, _, t, u, _ => by simp [argI, look, rel]
 | v :: l, x :: us, n, hr, t, u, h => by
  simp only [argI, look]
  split
  ·rename_i e; subst e
   have := h (Nat.le_refl _) (by simp)
   simp at this; subst this; exact hr.1
  ·refine argI_look l us (n + 1) hr.2 t u fun h1 h2 => ?_
   have := h (by omega) (by simp; omega)
   rw [show t - n = (t - (n + 1)) + 1 by omega] at this
   simpa using this
 | [], _ :: _, _, h, _, _, _ => h.elim
 | _ :: _, [], _, h, _, _, _ => h.elim

def initSt (args : List SV) : St := ⟨argI 0 args, [], []⟩

theorem ressS_ok (hT : TabOk C.P T) {g : Gh} {a : Act} {w : World} (ht : TmOk C g st a) (hm : Mem C g st w) : ∀ (rs : List ResultVar) (l : List SV), ressS T st rs = some l →
  ∃ us : List Value, rels g l us ∧ (rs.mapM (m := Sem) fun | .tmp t => pure (a.tmps.getD t undef) | .cell x t => do loadVar t (← asAddr (a.tmps.getD x undef))).run C.P w = .ok us w
 | [], l, h => by simp [ressS] at h; subst h; exact ⟨[], trivial, rfl⟩
 | r :: rs, l, h => by
  simp only [ressS] at h
  unfold consO at h
  split at h
  ·rename_i x l' h1 h2
   cases h
   obtain ⟨us, k1, k2⟩ := ressS_ok hT ht hm rs l' h2
   have key : ∃ u, rel g x u ∧ ((fun | .tmp t => pure (a.tmps.getD t undef) | .cell x t => do loadVar t (← asAddr (a.tmps.getD x undef)) : ResultVar → Sem Value) r).run C.P w = .ok u w := by
    cases r with
    | tmp t =>
     simp only [resS, Option.some.injEq] at h1
     subst h1
     exact ⟨_, rel_norm ht (ht.tm t), rfl⟩
    | cell t ty =>
     simp only [resS] at h1
     unfold re2 at h1
     split at h1
     ·rename_i b off s z kd e hx hti
      have hti := hT _ _ hti
      have e1 := rel_norm ht (ht.tm t)
      rw [hx] at e1
      have e1 := e1.1
      unfold bcells bc2 at h1
      rw [nth_eq] at h1
      cases hbx : st.bx[b]? with
      | none => rw [hbx] at h1; cases hk : kd.agg <;> simp [re3] at h1
      | some ob =>
       cases ob with
       | none => rw [hbx] at h1; cases hk : kd.agg <;> simp [re3] at h1
       | some bx =>
        rw [hbx] at h1
        simp only [] at h1
        obtain ⟨_, cells, hcell, hrel⟩ := hm.box _ _ hbx
        cases hcs : takeN s (dropN off bx.cells) with
        | none => rw [hcs] at h1; cases hk : kd.agg <;> simp [re3] at h1
        | some cs =>
         rw [hcs] at h1
         obtain ⟨hlen, hl2⟩ := takeN_eq _ _ _ hcs
         have hr2 : rels g cs ((cells.toList.drop off).take s) := by
          rw [hlen, dropN_eq]; exact rels_take _ (rels_drop _ hrel)
         have hl3 : ((cells.toList.drop off).take s).length = s := by rw [rels_length hr2, hl2]
         have hrun := loadAt_run hti (a := ⟨g.ρ b, off, none⟩) (cs := (cells.toList.drop off).take s) hl3 (w := w) (cells_at hcell (by rw [hl3])) hti.2.2.2.1
         simp only [Instr.loadAt, Instr.sureAddr, Sem.run_bind, Sem.run_pure, Result.andThen_ok] at hrun
         cases hk : kd.agg
         ·rw [hk] at h1 hrun
          unfold re3 at h1
          split at h1 <;> try (cases h1; done)
          ·exact absurd ‹false = true› (by simp)
          ·rename_i c hx hc2
           cases h1
           cases hc2
           have h1s : s = 1 := hti.2.2.2.1 hk
           match hus : (cells.toList.drop off).take s, hr2 with
           | [u], hr2 =>
            refine ⟨u, rel_norm ht hr2.1, ?_⟩
            simp only [e1, asAddr, Sem.run_bind, Sem.run_pure, Result.andThen_ok]
            rw [hrun, hus]; rfl
         ·rw [hk] at h1 hrun
          simp only [re3, Option.some.injEq] at h1
          subst h1
          refine ⟨.agg ((cells.toList.drop off).take s).toArray, ⟨_, rfl, by simpa using hr2⟩, ?_⟩
          simp only [e1, asAddr, Sem.run_bind, Sem.run_pure, Result.andThen_ok]
          exact hrun
     ·cases h1
   obtain ⟨u, k3, k4⟩ := key
   refine ⟨u :: us, ⟨k3, k1⟩, ?_⟩
   simp only [List.mapM_cons, Sem.run_bind, k4, Result.andThen_ok, k2, Sem.run_pure]
  ·cases h

def keepMu (μ : Mu) : Mu := fun f => if f then μ true else fun _ => none
mutual
theorem Rd_keep {μ : Mu} : ∀ (d : D) (u : Value), kpD d → Rd μ d u → Rd (keepMu μ) d u
 | .v _, _, _, h => by simpa only [Rd] using h
 | .sl b s els, u, hk, h => by
  simp only [kpD] at hk
  obtain ⟨rfl, hk⟩ := hk
  simp only [Rd] at h ⊢
  obtain ⟨A, c, h1, h2, h3⟩ := h
  exact ⟨A, c, h1, h2, RdE_keep els A s 0 hk h3⟩
 | .pt b cs, u, hk, h => by
  simp only [kpD] at hk
  obtain ⟨rfl, hk⟩ := hk
  simp only [Rd] at h ⊢
  obtain ⟨a, h1, h2⟩ := h
  exact ⟨a, h1, RdC_keep cs a 0 hk h2⟩
 | .clo f l, u, hk, h => by
  simp only [kpD] at hk
  simp only [Rd] at h ⊢
  obtain ⟨cs, h1, h2⟩ := h
  exact ⟨cs, h1, RdL_keep l _ hk h2⟩
theorem RdC_keep {μ : Mu} : ∀ (l : List D) (a : Addr) (j : Nat), kpL l → RdC μ l true a j → RdC (keepMu μ) l true a j
 | [], _, _, _, _ => by simp [RdC]
 | d :: l, a, j, hk, h => by
  simp only [kpL] at hk
  simp only [RdC] at h ⊢
  obtain ⟨⟨x, h1, h2⟩, h3⟩ := h
  exact ⟨⟨x, h1, Rd_keep d x hk.1 h2⟩, RdC_keep l a (j + 1) hk.2 h3⟩
theorem RdE_keep {μ : Mu} : ∀ (l : List (List D)) (A : Option Addr) (sz i : Nat), kpLL l → RdE μ l true A sz i → RdE (keepMu μ) l true A sz i
 | [], _, _, _, _, _ => by simp [RdE]
 | e :: l, A, sz, i, hk, h => by
  simp only [kpLL] at hk
  simp only [RdE] at h ⊢
  obtain ⟨⟨h0, ad, h1, h2⟩, h3⟩ := h
  exact ⟨⟨h0, ad, h1, RdC_keep e _ 0 hk.1 h2⟩, RdE_keep l A sz (i + 1) hk.2 h3⟩
theorem RdL_keep {μ : Mu} : ∀ (l : List D) (us : List Value), kpL l → RdL μ l us → RdL (keepMu μ) l us
 | [], [], _, _ => by simp [RdL]
 | d :: l, u :: us, hk, h => by
  simp only [kpL] at hk
  simp only [RdL] at h ⊢
  exact ⟨Rd_keep d u hk.1 h.1, RdL_keep l us hk.2 h.2⟩
 | [], _ :: _, _, h => by simp [RdL] at h
 | _ :: _, [], _, h => by simp [RdL] at h
end
theorem RdLL_keep {μ : Mu} : ∀ (l : List (List D)) (vss : List (List Value)), kpLL l → RdLL μ l vss → RdLL (keepMu μ) l vss
 | [], [], _, _ => by simp [RdLL]
 | d :: l, u :: us, hk, h => by
  simp only [kpLL] at hk
  simp only [RdLL] at h ⊢
  exact ⟨RdL_keep d u hk.1 h.1, RdLL_keep l us hk.2 h.2⟩
 | [], _ :: _, _, h => by simp [RdLL] at h
 | _ :: _, [], _, h => by simp [RdLL] at h
theorem RdW_keep {μ : Mu} : ∀ (d : D) (u : Value), kpD d → RdW μ d u → RdW (keepMu μ) d u
 | .v _, _, _, h => h
 | .sl b sz l, u, k, h => Rd_keep _ u k h
 | .pt b l, u, k, h => Rd_keep _ u k h
 | .clo f l, u, k, h => Rd_keep _ u k h
theorem RdM_keep {μ : Mu} : ∀ (els : List (List D)) (es : List MapEntry), kpLL els → RdM μ els es → RdM (keepMu μ) els es
 | [], [], _, _ => trivial
 | [.v k, d] :: l, e :: es, h, q => by
  simp only [kpLL, kpL] at h
  exact ⟨⟨q.1.1, RdW_keep d _ h.1.2.1 q.1.2⟩, RdM_keep l es h.2 q.2⟩
 | [], _ :: _, _, q => by simp [RdM] at q
 | [] :: _, _, _, q => by simp [RdM] at q
 | [_] :: _, _, _, q => by simp [RdM] at q
 | (.sl .. :: _ :: _) :: _, _, _, q => by simp [RdM] at q
 | (.pt .. :: _ :: _) :: _, _, _, q => by simp [RdM] at q
 | (.clo .. :: _ :: _) :: _, _, _, q => by simp [RdM] at q
 | (_ :: _ :: _ :: _) :: _, _, _, q => by simp [RdM] at q
 | [.v _, _] :: _, [], _, q => by simp [RdM] at q
def Gh.kept (g : Gh) : Gh := { g with nb := 0, μ := keepMu g.μ }
mutual
theorem rel_keep {g : Gh} : ∀ (v : SV) (u : Value), kpV v → rel g v u → rel g.kept v u
 | .any, _, _, _ => trivial
 | .v _, _, _, h => h
 | .sl b s els, u, hk, h => Rd_keep (.sl b s els) u (by simpa only [kpV, kpD] using hk) h
 | .pt b cs, u, hk, h => Rd_keep (.pt b cs) u (by simpa only [kpV, kpD] using hk) h
 | .box .., _, hn, _ => by simp [kpV] at hn
 | .row _, _, _, h => h
 | .relt .., _, hn, _ => by simp [kpV] at hn
 | .agg l, _, hn, ⟨cs, h1, h2⟩ => ⟨cs, h1, rels_keep l _ (by simpa only [kpV] using hn) h2⟩
 | .tup l, _, hn, ⟨cs, h1, h2⟩ => ⟨cs, h1, rels_keep l _ (by simpa only [kpV] using hn) h2⟩
 | .clo _ l, _, hn, ⟨cs, h1, h2⟩ => ⟨cs, h1, rels_keep l _ (by simpa only [kpV] using hn) h2⟩
 | .arm, _, hn, _ => by simp [kpV] at hn
 | .ali .., _, hn, _ => by simp [kpV] at hn
 | .bxa .., _, hn, _ => by simp [kpV] at hn
 | .glo .., _, hn, _ => by simp [kpV] at hn
 | .cap .., _, hn, _ => by simp [kpV] at hn
theorem rels_keep {g : Gh} : ∀ (l : List SV) (us : List Value), kpVL l → rels g l us → rels g.kept l us
 | [], [], _, h => h
 | x :: l, u :: us, hn, h => by
  simp only [kpVL] at hn
  exact ⟨rel_keep x u hn.1 h.1, rels_keep l us hn.2 h.2⟩
 | [], _ :: _, _, h => h.elim
 | _ :: _, [], _, h => h.elim
end
theorem kpR_get : ∀ {l : List Rw}, kpR l → ∀ (k : Nat) x, l[k]? = some x → ∃ e s els, x = .own e s els ∧ kpLL els
 | [], _, k, x, h => by simp at h
 | .own e s els :: l, h, 0, x, hx => by simp at hx; subst hx; simp only [kpR] at h; exact ⟨_, _, _, rfl, h.1⟩
 | .own e s els :: l, h, k + 1, x, hx => by simp only [kpR] at h; exact kpR_get h.2 k x (by simpa using hx)
 | .gone :: _, h, _, _, _ => by simp [kpR] at h
 | .frz .. :: _, h, _, _, _ => by simp [kpR] at h

mutual
theorem rel_normD {C : Cx} {g : Gh} {st : St} {a : Act} (ht : TmOk C g st a) : ∀ (v : SV) (u : Value), rel g v u → rel g (normD st.rw v) u
 | .row k, u, h => rel_norm ht (x := .row k) h
 | .agg l, u, ⟨cs, h1, h2⟩ => by simp only [normD]; exact ⟨cs, h1, rels_normD ht l _ h2⟩
 | .tup l, u, ⟨cs, h1, h2⟩ => by simp only [normD]; exact ⟨cs, h1, rels_normD ht l _ h2⟩
 | .any, _, h => h
 | .v _, _, h => h
 | .sl .., _, h => h
 | .pt .., _, h => h
 | .box .., _, h => h
 | .relt .., _, h => h
 | .clo .., _, h => h
 | .arm, _, h => h
 | .ali .., _, h => h
 | .bxa .., _, h => h
 | .glo .., _, h => h
 | .cap .., _, h => h
theorem rels_normD {C : Cx} {g : Gh} {st : St} {a : Act} (ht : TmOk C g st a) : ∀ (l : List SV) (us : List Value), rels g l us → rels g (normDL st.rw l) us
 | [], [], h => h
 | x :: l, u :: us, h => ⟨rel_normD ht x u h.1, rels_normD ht l us h.2⟩
 | [], _ :: _, h => h.elim
 | _ :: _, [], h => h.elim
end

theorem retOk_of {P : Program} {w0 : World} {N : Nat} {kp : Hp} {g : Gh} {st : St} {a : Act} {w : World} (hm : Mod ⟨P, w0, N, kp, pin0, false⟩ g st a w) {v : SV} {u : Value} (hr : rel g v u) {post : Ret → Prop} {l : Lk post} (he : EndW v st.rw post l) : ∃ r, post r ∧ RetOk w0 w kp r u := by
 obtain ⟨γ, r, hp, hn, h1, h2, h3, h4⟩ := he
 have hγ := NodupO.of_filter hn
 have hrows := ren_rows (β := []) hm hγ h2
 refine ⟨r, hp, ⟨⟨hm.mem.os, hm.mem.tape, hm.mem.output, hm.mem.size, fun b hb => (hm.mem.old true b (by simpa [frS, pin0, ho0] using hb)).1⟩, (g.ren [] γ).kept, rfl, (leR_len h2).symm, rel_keep _ _ h3 (rel_ren _ _ _ hr h1), fun b hb => ?_, fun k x hk => ?_, fun k e s els hk => ?_, hm.mem.imm true |>.1, fun b o hb => ⟨?_, (hm.mem.keep b o hb).1⟩, rfl⟩⟩
 ·have : g.tag b = .imm := hb.elim (fun h => (hm.mem.old true b (by simpa [frS, pin0, ho0] using h)).2) (fun h => hm.mem.fresh b h)
  simp only [Gh.kept, Gh.ren, this]
 ·obtain ⟨e, s, els, h, _⟩ := kpR_get h4 k x hk; exact ⟨e, s, els, h⟩
 ·obtain ⟨hrow, k4⟩ := hrows k e s els hk
  obtain ⟨_, _, _, h, hkp⟩ := kpR_get h4 k _ hk
  cases h
  rcases hrow with ⟨hs0, vss, k1, k2, k3⟩ | ⟨hs0, b, ents, clk, m1, m2, m3, m4⟩
  ·exact ⟨.inl ⟨hs0, vss, k1, k2, RdLL_keep _ _ hkp k3⟩, k4⟩
  ·exact ⟨.inr ⟨hs0, b, ents, clk, m1, m2, m3, RdM_keep _ _ hkp m4⟩, k4⟩
 ·have : g.tag b = .imm := (hm.mem.imm true).2 b o hb
  simp only [Gh.kept, Gh.ren, this]

def tupU : List Value → Value
 | [u] => u
 | us => .tuple us.toArray

theorem results_run {P : Program} {fn : Func} {a : Act} {w : World} {us : List Value}
  (h : (fn.results.toList.mapM (m := Sem) fun | .tmp t => pure (a.tmps.getD t undef) | .cell x t => do loadVar t (← asAddr (a.tmps.getD x undef))).run P w = .ok us w) :
  (results fn a.tmps).run P w = .ok (tupU us) w := by
 unfold results
 rw [Array.mapM_eq_mapM_toList]
 have e : ∀ (m : Sem (List Value)), (List.toArray <$> m) = (m >>= fun l => pure l.toArray) := fun _ => rfl
 simp only [e, Sem.run_bind]
 refine (congrArg (fun r : Result (List Value) => (r.andThen fun a w' => Sem.run P (pure a.toArray) w').andThen fun (a : Array Value) w' => Sem.run P (pure (if h : a.size = 1 then a[0] else Value.tuple a)) w') h).trans ?_
 match us with
 | [] => rfl
 | [u] => rfl
 | u :: v :: l => rfl

/-! ### a function is left: the marks of its loops -/
def Mu.LeC (μ ν : Mu) : Prop := ∀ f a v, (μ f).cell a = some v → (ν f).cell a = some v
mutual
theorem Rd.monoC {μ ν : Mu} (h : μ.LeC ν) : ∀ (d : D) (u : Value), Rd μ d u → Rd ν d u
 | .v _, _, k => by simpa [Rd] using k
 | .sl b sz els, u, k => by
  simp only [Rd] at k ⊢
  obtain ⟨A, c, h1, h2, h3⟩ := k
  exact ⟨A, c, h1, h2, RdE.monoC h els b A sz 0 h3⟩
 | .pt b cs, u, k => by
  simp only [Rd] at k ⊢
  obtain ⟨a, h1, h2⟩ := k
  exact ⟨a, h1, RdC.monoC h cs b a 0 h2⟩
 | .clo f l, u, k => by
  simp only [Rd] at k ⊢
  obtain ⟨cs, h1, h2⟩ := k
  exact ⟨cs, h1, RdL.monoC h l _ h2⟩
theorem RdC.monoC {μ ν : Mu} (h : μ.LeC ν) : ∀ (l : List D) (b : Bool) (a : Addr) (j : Nat), RdC μ l b a j → RdC ν l b a j
 | [], _, _, _, _ => by simp [RdC]
 | d :: l, b, a, j, k => by
  simp only [RdC] at k ⊢
  obtain ⟨⟨x, h1, h2⟩, h3⟩ := k
  exact ⟨⟨x, h b _ _ h1, Rd.monoC h d x h2⟩, RdC.monoC h l b a (j + 1) h3⟩
theorem RdE.monoC {μ ν : Mu} (h : μ.LeC ν) : ∀ (l : List (List D)) (b : Bool) (A : Option Addr) (sz i : Nat), RdE μ l b A sz i → RdE ν l b A sz i
 | [], _, _, _, _, _ => by simp [RdE]
 | e :: l, b, A, sz, i, k => by
  simp only [RdE] at k ⊢
  obtain ⟨⟨h0, ad, h1, h2⟩, h3⟩ := k
  exact ⟨⟨h0, ad, h1, RdC.monoC h e b _ 0 h2⟩, RdE.monoC h l b A sz (i + 1) h3⟩
theorem RdL.monoC {μ ν : Mu} (h : μ.LeC ν) : ∀ (l : List D) (us : List Value), RdL μ l us → RdL ν l us
 | [], [], _ => by simp [RdL]
 | d :: l, u :: us, k => by
  simp only [RdL] at k ⊢
  exact ⟨Rd.monoC h d u k.1, RdL.monoC h l us k.2⟩
 | [], _ :: _, k => by simp [RdL] at k
 | _ :: _, [], k => by simp [RdL] at k
end
theorem RdLL.monoC {μ ν : Mu} (h : μ.LeC ν) : ∀ (l : List (List D)) (us : List (List Value)), RdLL μ l us → RdLL ν l us
 | [], [], _ => by simp [RdLL]
 | d :: l, u :: us, k => by
  simp only [RdLL] at k ⊢
  exact ⟨k.1.monoC h d u, RdLL.monoC h l us k.2⟩
 | [], _ :: _, k => by simp [RdLL] at k
 | _ :: _, [], k => by simp [RdLL] at k
mutual
theorem rel_monoC {g : Gh} {ν : Mu} (h : g.μ.LeC ν) : ∀ (v : SV) (u : Value), rel g v u → rel { g with μ := ν } v u
 | .any, _, _ => trivial
 | .v _, _, k => k
 | .sl .., _, k => Rd.monoC h _ _ k
 | .pt .., _, k => Rd.monoC h _ _ k
 | .box .., _, k => k
 | .row .., _, k => k
 | .relt .., _, k => k
 | .agg l, _, ⟨cs, h1, h2⟩ => ⟨cs, h1, rels_monoC h l _ h2⟩
 | .tup l, _, ⟨cs, h1, h2⟩ => ⟨cs, h1, rels_monoC h l _ h2⟩
 | .clo _ l, _, ⟨cs, h1, h2⟩ => ⟨cs, h1, rels_monoC h l _ h2⟩
 | .arm, _, k => k
 | .ali .., _, k => k
 | .bxa .., _, k => k
 | .glo .., _, k => RdC.monoC h _ _ _ _ k
 | .cap .., _, k => ⟨Rd.monoC h _ _ k.1, k.2⟩
theorem rels_monoC {g : Gh} {ν : Mu} (h : g.μ.LeC ν) : ∀ (l : List SV) (us : List Value), rels g l us → rels { g with μ := ν } l us
 | [], [], k => k
 | x :: l, u :: us, k => ⟨rel_monoC h x u k.1, rels_monoC h l us k.2⟩
 | [], _ :: _, k => k.elim
 | _ :: _, [], k => k.elim
end
def dropH (ds : List Nat) (μ : Hp) : Hp := fun b => if b ∈ ds then none else μ b
def Gh.close (g : Gh) (ds : List Nat) : Gh := { g with μ := fun f => dropH ds (g.μ f) }
def closeW (ds : List Nat) (w : World) : World := ds.foldl (fun w D => w.putObj D (.deferred none)) w
theorem closeW_heap : ∀ (ds : List Nat) (w : World) (b : Nat), b ∉ ds → (closeW ds w).heap[b]? = w.heap[b]?
 | [], _, _, _ => rfl
 | D :: ds, w, b, h => by
  simp only [List.mem_cons, not_or] at h
  exact (closeW_heap ds _ b h.2).trans (World.putObj_heap_other h.1)
theorem closeW_rest : ∀ (ds : List Nat) (w : World), (closeW ds w).heap.size = w.heap.size ∧ (closeW ds w).os = w.os ∧ (closeW ds w).tape = w.tape ∧ (closeW ds w).output = w.output
 | [], _ => ⟨rfl, rfl, rfl, rfl⟩
 | D :: ds, w => by
  obtain ⟨h1, h2, h3, h4⟩ := closeW_rest ds (w.putObj D (.deferred none))
  exact ⟨h1.trans (by simp), h2, h3, h4⟩
theorem leaves_marks {F : Fence} {n : Nat} {P : Program} {fn : Func} {tmps : Array Value} {R : Ending → World → Prop} : ∀ (ds : List Nat) (w : World), (∀ D ∈ ds, w.heap[D]? = some (.deferred (some []))) → ds.Nodup →
  (∃ v, (results fn tmps).run P (closeW ds w) = .ok v (closeW ds w) ∧ R (.returned v) (closeW ds w)) → LeavesInM F n P fn tmps R (ds.map markOf) .returning w
 | [], w, _, _, h => h
 | D :: ds, w, h1, h2, h => by
  refine ⟨by simp, .inl ⟨D, _, rfl, run_takeDeferred (h1 D (by simp)), ?_⟩⟩
  have h2' := List.nodup_cons.1 h2
  refine leaves_marks ds _ (fun E hE => ?_) h2'.2 h
  have hne : E ≠ D := fun e => h2'.1 (by rw [← e]; exact hE)
  rw [World.putObj_heap_other hne]
  exact h1 E (by simp [hE])
theorem RowOk.monoC {μ ν : Mu} (h : μ.LeC ν) {base : Nat} {w : World} {v : Value} {ety size : Nat} {els : List (List D)} (hr : RowOk μ base w v ety size els) : RowOk ν base w v ety size els := by
 rcases hr with ⟨h0, vss, h1, h2, h3⟩ | hr
 ·exact .inl ⟨h0, vss, h1, h2, h3.monoC h⟩
 ·exact .inr ⟨hr.1, hr.2.imp (fun d u => Rd.monoC h d u)⟩
theorem Mod.close {C : Cx} {g : Gh} {st : St} {a : Act} {w : World} (hm : Mod C g st a w) {ds : List Nat} (hds : ∀ D ∈ ds, g.μ false D = some (.deferred (some [])) ∧ C.w0.heap.size ≤ D ∧ g.fo D = false)
  (hfr : ∀ D, C.w0.heap.size ≤ D → frS C g.fo true D = false) (hpin : C.pin.μ = mu0) : Mod C (g.close ds) st { a with defers := [] } (closeW ds w) := by
 obtain ⟨hsz, hos, htp, hou⟩ := closeW_rest ds w
 have htag : ∀ D ∈ ds, g.tag D = .imm := fun D hD => (hm.mem.imm false).2 D _ (hds D hD).1
 have hobj : ∀ D ∈ ds, w.heap[D]? = some (.deferred (some [])) := fun D hD => (hm.mem.imm false).1 D _ (hds D hD).1
 have hne : ∀ b, g.tag b ≠ .imm → b ∉ ds := fun b hb hD => hb (htag b hD)
 have hC : g.μ.LeC (g.close ds).μ := fun f a v hv => by
  have : a.block ∉ ds := fun hD => by
   obtain ⟨o, ho⟩ := Hp.cell_block hv
   have h1 := (hm.mem.imm f).1 _ _ ho
   rw [hobj _ hD] at h1; cases h1
   unfold Hp.cell at hv
   rw [ho] at hv; cases hv
  have he : dropH ds (g.μ f) a.block = g.μ f a.block := if_neg this
  show (dropH ds (g.μ f)).cell a = _
  unfold Hp.cell at hv ⊢
  rw [he]; exact hv
 refine ⟨⟨hm.tm.nb, hm.tm.nr, .nil _ _, hm.tm.size, fun t => rel_monoC hC _ _ (hm.tm.tm t), fun k s e hk => (hm.tm.frz k s e hk).monoC hC, hm.tm.pin.nb, hm.tm.pin.nr, hm.tm.pin.ρ, hm.tm.pin.σ, by rw [hpin]; exact Mu.le0 _⟩,
  hos.trans hm.mem.os, htp.trans hm.mem.tape, hou.trans hm.mem.output, by rw [hsz]; exact hm.mem.size, fun q b hb => ⟨?_, (hm.mem.old q b hb).2⟩, fun b hb => hm.mem.fresh b (by rw [← hsz]; exact hb), fun k b hk => ?_, fun k e s els hk => ?_, fun f => ⟨fun b o hb => ?_, fun b o hb => ?_⟩, fun b o hb => ?_, fun b hb => ⟨(hm.mem.np b hb).1, by rw [hsz]; exact (hm.mem.np b hb).2⟩,
  hm.mem.hs.next rfl rfl rfl (by rw [hsz]; exact Nat.le_refl _) (fun f b o hb => ?_) fun k s ys hk => ⟨k, hk⟩⟩
 ·have : b ∉ ds := fun hD => by
   obtain ⟨_, h2, h3⟩ := hds b hD
   cases q
   ·have hb' : g.fo b = true := hb
    rw [h3] at hb'; cases hb'
   ·have := hfr b h2
    have hb' : frS C g.fo true b = true := hb
    rw [this] at hb'; cases hb'
  exact (closeW_heap ds w b this).trans (hm.mem.old q b hb).1
 ·obtain ⟨h1, cs, h2, h3⟩ := hm.mem.box k b hk
  exact ⟨h1, cs, (closeW_heap ds w _ (hne _ (by show g.tag (g.ρ k) ≠ _; rw [h1]; exact fun e => by cases e))).trans h2, rels_monoC hC _ _ h3⟩
 ·obtain ⟨h1, h2⟩ := hm.mem.row k e s els hk
  exact ⟨(h1.monoC hC).keep fun b hb => closeW_heap ds w b (hne _ (by have := h2 b hb; rw [this]; exact fun e => by cases e)), h2⟩
 ·have hb' : dropH ds (g.μ f) b = some o := hb
  unfold dropH at hb'
  split at hb'
  ·cases hb'
  ·rename_i h; exact (closeW_heap ds w b h).trans ((hm.mem.imm f).1 b o hb')
 ·have hb' : dropH ds (g.μ f) b = some o := hb
  unfold dropH at hb'
  split at hb'
  ·cases hb'
  ·exact (hm.mem.imm f).2 b o hb'
 ·have hb' : dropH ds (g.μ true) b = some o := hb
  unfold dropH at hb'
  split at hb'
  ·cases hb'
  ·exact hm.mem.keep b o hb'
 ·have hb' : dropH ds (g.μ f) b = some o := hb
  unfold dropH at hb'
  split at hb'
  ·cases hb'
  ·exact .inl hb'

theorem Ctr.start {P : Program} {N : Nat} {args : List SV} (hargs : args.length ≤ N) {w : World} {kp : Hp} (hkp : kp.In w) {vs : List Value} (hr : rels (gh0 kp w) args vs) :
  Mod ⟨P, w, N, kp, pin0, false⟩ (gh0 kp w) (initSt args) { tmps := vs.toArray ++ Array.replicate (N - vs.toArray.size) undef, defers := [] } w := by
 let C : Cx := ⟨P, w, N, kp, pin0, false⟩
 have hvl := rels_length hr
 refine ⟨⟨rfl, rfl, .nil _ _, by simp [C]; omega, fun t => ?_, fun k s e hk => by simp [initSt] at hk, ⟨Nat.le_refl _, Nat.le_refl _, fun k hk => absurd hk (Nat.not_lt_zero k), fun k hk => absurd hk (Nat.not_lt_zero k), Mu.le0 _⟩⟩, rfl, rfl, rfl, Nat.le_refl _, fun q b _ => ⟨by cases q <;> rfl, rfl⟩, fun b _ => rfl, fun k b hk => by simp [initSt] at hk, fun k e s els hk => by simp [initSt] at hk, fun f => ⟨?_, fun _ _ _ => rfl⟩, fun b o hb => ⟨.inr ⟨o, hb⟩, rfl⟩, fun b hb => (by cases hb), ⟨fun q b hb => by cases q <;> simpa [frS, C, pin0, ho0, gh0] using hb, fun b hb => by simp [gh0] at hb, fun _ _ => rfl, fun b hb => by simp [C, pin0, ho0] at hb, fun k s ys hk => by simp [initSt] at hk, fun l hl => by simp [C, pin0, ho0] at hl, Nat.zero_le _, ⟨Nat.le_refl _, rfl, rfl, rfl⟩⟩⟩
 ·refine argI_look args vs 0 hr t _ fun _ hlt => ?_
  have hlt : t < vs.length := by omega
  simp only [Nat.sub_zero]
  rw [List.getElem?_eq_getElem hlt]
  simp [Array.getD_eq_getD_getElem?, Array.getElem?_append, hlt]
 ·cases f
  ·exact fun b o h => h
  ·exact hkp

theorem Ctr.of {P : Program} {T : Tab} (hT : TabOk P T) (fz : Bool) {f : FuncId} {fn : Func} {body : Code} {rs : List ResultVar} {args : List SV} {post : Ret → Prop} (hf : P.funcs[f]? = some fn) (hb : fn.body = some body) (hname : (fn.name == "runtime.NumGoroutine") = false) (hrs : fn.results.toList = rs)
  (hd : dstOk fn.ntmps body = true) (hargs : args.length ≤ fn.ntmps) (h : ∀ w0 kp, runC T ⟨P, w0, fn.ntmps, kp, pin0, false⟩ body (initSt args) (finK T fz rs post) ⟨⟩) : Ctr P f args post := by
 refine ⟨⟨fn, hf, hname, by simp [hb]⟩, fun w kp hkp vs hr => ?_⟩
 refine callsIn_wide.1 (callsIn_of_wp_marks (F := Fence.wide) (n := 0) hf hb trivial ?_ rfl)
 let C : Cx := ⟨P, w, fn.ntmps, kp, pin0, false⟩
 have hT' : TabOk C.P T := hT
 have hvl := rels_length hr
 have hm := Ctr.start (P := P) (N := fn.ntmps) hargs hkp hr
 refine wpIn_mono (code_sound hT' body _ _ hd (h w kp) _ _ w hm) fun e a' w' ⟨g', st', h1, h2⟩ => ?_
 have key : ∀ {l}, endX fz (ressS T st' rs) st' post l → LeavesInM Fence.wide 0 P fn a'.tmps (fun e w' => ∃ v r, e = .returned v ∧ post r ∧ RetOk w w' kp r v) a'.defers .returning w' := by
  intro l he
  obtain ⟨ds, hds1, hds2, hds3, _⟩ := h2.tm.defers
  rw [hds1]
  have h3 : Mod C (g'.close ds) st' { a' with defers := [] } (closeW ds w') := h2.close hds2 (fun D hD => by simpa [frS, C, pin0, ho0] using hD) rfl
  refine leaves_marks ds w' (fun D hD => (h2.mem.imm false).1 D _ (hds2 D hD).1) hds3 ?_
  revert h3
  generalize closeW ds w' = w'
  generalize g'.close ds = g'
  intro h3
  clear h2
  have h2 := h3
  unfold endX at he
  split at he
  ·rename_i l hl
   obtain ⟨us, k1, k2⟩ := ressS_ok hT' h2.tm h2.mem rs l hl
   rw [← hrs] at k2
   have hres := results_run k2
   refine ⟨tupU us, hres, tupU us, ?_⟩
   have hrel : rel g' (tupV l) (tupU us) := by
    match l, us, k1 with
    | [], [], _ => exact ⟨_, rfl, trivial⟩
    | [x], [u], k => exact k.1
    | x :: y :: l, u :: v :: us, k => exact ⟨_, rfl, by simpa using k⟩
   cases fz
   ·obtain ⟨r, hp, hok⟩ := retOk_of h2 (rel_normD h2.tm _ _ hrel) he
    exact ⟨r, rfl, hp, hok⟩
   ·obtain ⟨g2, k4, k5, k6, _, _⟩ := frz_sound (rowsIn st'.rw l) h2.tm h2.mem
    obtain ⟨r, hp, hok⟩ := retOk_of ⟨k5, k6⟩ (rel_normD k5 _ _ (rel_mono k4 _ _ hrel)) he
    exact ⟨r, rfl, hp, hok⟩
  ·exact he.elim
 cases e with
 | normal => exact key (l := ⟨⟩) h1
 | ret => exact key (l := ⟨⟩) h1
 | exit _ => exact h1.elim
 | goto _ => exact h1.elim
 | panic _ => exact h1.elim
 | outgrown => exact h1.elim

end
end Go.Vx
