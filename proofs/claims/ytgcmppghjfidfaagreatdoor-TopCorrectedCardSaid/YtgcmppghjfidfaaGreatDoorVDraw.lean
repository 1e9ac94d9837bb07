/-
 Regions that draw their order: quiet operations first, the others in each order that may be drawn.
-/
import Derived.Test.YtgcmppghjfidfaaGreatDoorVCode
namespace Go.Vx
open Go Go.RowKit
set_option linter.unusedSimpArgs false

/-! ### an operation may be taken first while others leave what it reads -/
/-- number 'i' must lie before number 'j'. -/
def befB (ops : Array Oper) : Nat → Nat → Nat → Bool
 | 0, _, _ => false
 | n + 1, i, j => match ops[j]? with
  | none => false
  | some o => o.after.any fun e => Region.binds .any e && (e.on == i || befB ops n i e.on)

def Closed (ops : Array Oper) (listed : Array Bool) : Prop :=
 ∀ k, listed.getD k false = true → ∀ o, ops[k]? = some o → ∀ e ∈ o.after, Region.binds .any e = true → listed.getD e.on false = true

theorem befB_listed {ops : Array Oper} {listed : Array Bool} (hc : Closed ops listed) {i : Nat} : ∀ (n j : Nat), (∀ o, ops[j]? = some o → ∀ e ∈ o.after, Region.binds .any e = true → listed.getD e.on false = true) → befB ops n i j = true → listed.getD i false = true
 | 0, _, _, h => by simp [befB] at h
 | n + 1, j, hj, h => by
  simp only [befB] at h
  split at h
  ·cases h
  ·rename_i o ho
   obtain ⟨e, he, h⟩ := Array.any_eq_true'.1 h
   simp only [Bool.and_eq_true, Bool.or_eq_true, beq_iff_eq] at h
   obtain ⟨hb, h | h⟩ := h
   ·rw [← h]; exact hj o ho e he hb
   ·exact befB_listed hc n e.on (fun o' ho' => hc _ (hj o ho e he hb) o' ho') h

theorem Closed.set {ops : Array Oper} {listed : Array Bool} (hc : Closed ops listed) {j : Nat} (hj : j ∈ Region.ready .any ops listed) : Closed ops (listed.setIfInBounds j true) := by
 intro k hk o ho e he hb
 obtain ⟨_, oj, hoj, hall⟩ := mem_ready.1 hj
 by_cases hkj : j = k
 ·subst hkj
  rw [ho] at hoj; cases hoj
  exact getD_set_true (hall e he hb)
 ·rw [getD_set_ne false hkj] at hk
  exact getD_set_true (hc k hk o ho e he hb)

abbrev Pend := List (Nat × (World → Prop))
def dropP (ops : Array Oper) (j : Nat) (Ss : Pend) : Pend := Ss.filter fun e => !befB ops ops.size e.1 j

section
variable {P : Program} {ops : Array Oper} {Q : Exit → Act → World → Prop}

def wpAnyS (P : Program) (ops : Array Oper) (Q : Exit → Act → World → Prop) : Nat → Array Bool → Pend → Act → World → Prop
 | 0, listed, _, a, w => Region.ready .any ops listed = [] ∧ Q .normal a w
 | fuel + 1, listed, Ss, a, w =>
  (Region.ready .any ops listed = [] → Q .normal a w) ∧
  ∀ j ∈ Region.ready .any ops listed, wpOp P ops Q j (fun a' w' => (∀ e ∈ dropP ops j Ss, e.2 w') ∧ wpAnyS P ops Q fuel (listed.setIfInBounds j true) (dropP ops j Ss) a' w') a w

theorem wpAny_of_S : ∀ (fuel : Nat) (listed : Array Bool) (Ss : Pend) (a : Act) (w : World), wpAnyS P ops Q fuel listed Ss a w → wpAny P .any ops Q fuel listed a w
 | 0, _, _, _, _, h => h
 | fuel + 1, _, _, _, _, h => ⟨h.1, fun j hj => wpOp_mono (fun a' w' h' => wpAny_of_S fuel _ _ a' w' h'.2) (h.2 j hj)⟩

theorem wpAnyS_sub : ∀ (fuel : Nat) (listed : Array Bool) (Ss Ss' : Pend) (a : Act) (w : World), (∀ e ∈ Ss', e ∈ Ss) → wpAnyS P ops Q fuel listed Ss a w → wpAnyS P ops Q fuel listed Ss' a w
 | 0, _, _, _, _, _, _, h => h
 | fuel + 1, _, Ss, Ss', _, _, hs, h => ⟨h.1, fun j hj => wpOp_mono (fun a' w' h' => by
   have hd : ∀ e ∈ dropP ops j Ss', e ∈ dropP ops j Ss := fun e he => by
    simp only [dropP, List.mem_filter] at he ⊢
    exact ⟨hs e he.1, he.2⟩
   exact ⟨fun e he => h'.1 e (hd e he), wpAnyS_sub fuel _ _ _ a' w' hd h'.2⟩) (h.2 j hj)⟩

theorem wpAnyS_first {i : Nat} {oi : Oper} {v : Value} {S : World → Prop} (hi : ops[i]? = some oi) (hsel : ∀ (j : Nat) (o : Oper) cs b, ops[j]? = some o → o.op ≠ .select cs b)
  (hQ : ∀ c a w, Q (.panic c) (a.put oi.dst v) w → Q (.panic c) a w) :
  ∀ (fuel : Nat) (listed : Array Bool) (Ss : Pend) (a : Act) (w : World), Closed ops listed →
   (∀ j oj, ops[j]? = some oj → j ≠ i → listed.getD j true = false → (∀ e ∈ oj.after, Region.binds .any e = true → e.on ≠ i) → oi.apart ops oj = true) →
   i ∈ Region.ready .any ops listed → YieldsIf P ops S oi v a → S w → (∀ e ∈ Ss, e.2 w) →
   wpAnyS P ops Q fuel (listed.setIfInBounds i true) ((i, S) :: Ss) (a.put oi.dst v) w → wpAnyS P ops Q (fuel + 1) listed Ss a w := by
 have here : ∀ (fuel : Nat) (listed : Array Bool) (Ss : Pend) (a : Act) (w : World), YieldsIf P ops S oi v a → S w → (∀ e ∈ Ss, e.2 w) → wpAnyS P ops Q fuel (listed.setIfInBounds i true) ((i, S) :: Ss) (a.put oi.dst v) w →
   wpOp P ops Q i (fun a' w' => (∀ e ∈ dropP ops i Ss, e.2 w') ∧ wpAnyS P ops Q fuel (listed.setIfInBounds i true) (dropP ops i Ss) a' w') a w := fun fuel listed Ss a w hy hS hp H => by
  have hd : ∀ e ∈ dropP ops i Ss, e ∈ Ss := fun e he => (List.mem_filter.1 he).1
  exact hy.wpOp hi hS ⟨fun e he => hp e (hd e he), wpAnyS_sub _ _ _ _ _ _ (fun e he => List.mem_cons_of_mem _ (hd e he)) H⟩
 intro fuel
 induction fuel with
 | zero =>
  intro listed Ss a w _ _ hr hy hS hp H
  refine ⟨fun h => (by rw [h] at hr; cases hr), fun j hj => ?_⟩
  by_cases hji : j = i
  ·subst hji; exact here 0 listed Ss a w hy hS hp H
  ·have := ready_mono hj hji
   rw [H.1] at this
   cases this
 | succ fuel ih =>
  intro listed Ss a w hcl hfree hr hy hS hp H
  refine ⟨fun h => (by rw [h] at hr; cases hr), fun j hj => ?_⟩
  by_cases hji : j = i
  ·subst hji; exact here (fuel + 1) listed Ss a w hy hS hp H
  ·have h1 := H.2 j (ready_mono hj hji)
   obtain ⟨hjun, oj, hoj, hall⟩ := mem_ready.1 hj
   have hi0 : listed.getD i false = false := by
    have h0 := (mem_ready.1 hr).1
    rcases Nat.lt_or_ge i listed.size with h' | h'
    ·simp [h'] at h0 ⊢; exact h0
    ·simp [Array.getElem?_eq_none h']
   have hnot : ∀ e ∈ oj.after, Region.binds .any e = true → e.on ≠ i := fun e he hb heq => by
    have h1 := hall e he hb
    rw [heq, hi0] at h1; cases h1
   have hbef : befB ops ops.size i j = false := by
    cases hb : befB ops ops.size i j with
    | false => rfl
    | true =>
     have := befB_listed hcl _ _ (fun o ho e he hb => by rw [hoj] at ho; cases ho; exact hall e he hb) hb
     rw [hi0] at this; cases this
   have hdrop : dropP ops j ((i, S) :: Ss) = (i, S) :: dropP ops j Ss := by
    simp only [dropP]
    rw [List.filter_cons]
    simp [hbef]
   rw [hdrop] at h1
   have h2 := wpOp_putIf hoj (hfree j oj hoj hji hjun hnot) (fun cs b => hsel i oi cs b hi) (fun cs b => hsel j oj cs b hoj) hQ hy h1
   have hfree' : ∀ k ok, ops[k]? = some ok → k ≠ i → (listed.setIfInBounds j true).getD k true = false →
     (∀ e ∈ ok.after, Region.binds .any e = true → e.on ≠ i) → oi.apart ops ok = true := fun k ok hk hki hun hno => by
    refine hfree k ok hk hki ?_ hno
    by_cases hjk : j = k
    ·subst hjk; exact hjun
    ·rw [getD_set_ne true hjk] at hun; exact hun
   refine wpOp_mono (fun a' w' h3 => ?_) h2
   obtain ⟨hy', hp', H'⟩ := h3
   have hp2 : ∀ e ∈ dropP ops j Ss, e.2 w' := fun e he => hp' e (List.mem_cons_of_mem _ he)
   refine ⟨hp2, ih (listed.setIfInBounds j true) _ a' w' (hcl.set hj) hfree' (ready_mono hr (Ne.symm hji)) hy' (hp' (i, S) (by simp)) hp2 ?_⟩
   rw [Array.setIfInBounds_comm _ _ hji]
   exact H'
end


/-! ### plans -/
inductive Plan where
 | done
 | q (i : Nat) (p : Plan)
 | e (i : Nat) (keep : List Nat) (p : Plan)
 | e2 (i : Nat) (ki : List Nat) (p : Plan) (j : Nat) (kj : List Nat) (q : Plan)
 | e3 (i : Nat) (ki : List Nat) (p : Plan) (j : Nat) (kj : List Nat) (q : Plan) (l : Nat) (kl : List Nat) (r : Plan)
 | z (i : Nat) (p : Plan)

def isQ : Op → Bool
 | .move _ | .assign _ | .pick .. | .binOp .. | .unOp .. | .convert .. | .fieldAddr .. | .indexAddr .. | .load .. | .extract .. | .nilCheck _ | .build .. | .makeFunc .. | .slice _ _ _ _ none | .field .. | .makeInterface .. => true
 | .call { callee := .builtin .len, .. } | .call { callee := .builtin .min, .. } | .call { callee := .builtin .max, .. } => true
 | _ => false
def isL : Op → Bool
 | .load .. => true
 | _ => false
def opIs (f : Op → Bool) : Option Oper → Bool
 | some o => f o.op
 | none => false
def keepOk (ops : Array Oper) (listed : Array Bool) (i : Nat) (keep : List Nat) : Bool :=
 (List.range ops.size).all fun k => !listed.getD k false || !opIs isL ops[k]? || befB ops ops.size k i || keep.contains k
def planOk (ops : Array Oper) : Nat → Array Bool → Plan → Bool
 | _, listed, .done => (Region.ready .any ops listed).isEmpty
 | n + 1, listed, .q i p => (Region.ready .any ops listed).contains i && opIs isQ ops[i]? && Region.free .any ops listed i && planOk ops n (listed.setIfInBounds i true) p
 | n + 1, listed, .e i keep p => (Region.ready .any ops listed == [i]) && keepOk ops listed i keep && planOk ops n (listed.setIfInBounds i true) p
 | n + 1, listed, .e2 i ki p j kj q => (Region.ready .any ops listed == [i, j]) && keepOk ops listed i ki && planOk ops n (listed.setIfInBounds i true) p && keepOk ops listed j kj && planOk ops n (listed.setIfInBounds j true) q
 | n + 1, listed, .e3 i ki p j kj q l kl r => (Region.ready .any ops listed == [i, j, l]) && keepOk ops listed i ki && planOk ops n (listed.setIfInBounds i true) p && keepOk ops listed j kj && planOk ops n (listed.setIfInBounds j true) q && keepOk ops listed l kl && planOk ops n (listed.setIfInBounds l true) r
 | n, listed, .z _ p => planOk ops n listed p
 | 0, _, _ => false

def lookF : List (Nat × Fp) → Nat → Fp
 | [], _ => .no
 | (t, x) :: l, u => if t = u then x else lookF l u
def addF (i : Nat) : Fp → List (Nat × Fp) → List (Nat × Fp)
 | .no, l => l
 | .imm, l => (i, .imm) :: l
 | .box k, l => (i, .box k) :: l
 | .row k, l => (i, .row k) :: l
def aliveB : Option (Option Bx) → Bool
 | some (some _) => true
 | _ => false
def aliveR : Option Rw → Bool
 | some (.own ..) => true
 | _ => false
def safe1 (st : St) : Ht → Fp → Prop
 | .no, _ => True
 | _, .no => True
 | .all, .imm => True
 | .all, _ => False
 | .box b, .imm => aliveB (nth st.bx b) = true
 | .row r, .imm => aliveR (nth st.rw r) = true
 | .box b, .box k => b ≠ k ∧ aliveB (nth st.bx b) = true ∧ aliveB (nth st.bx k) = true
 | .row r, .box k => aliveR (nth st.rw r) = true ∧ aliveB (nth st.bx k) = true
 | .box b, .row r => aliveB (nth st.bx b) = true ∧ aliveR (nth st.rw r) = true
 | .row b, .row r => b ≠ r ∧ aliveR (nth st.rw b) = true ∧ aliveR (nth st.rw r) = true
def safeL (st : St) (ht : Ht) (fps : List (Nat × Fp)) : List Nat → Prop
 | [] => True
 | i :: l => safe1 st ht (lookF fps i) ∧ safeL st ht fps l

def notRow : SV → Bool
 | .row _ => false
 | .box .. => false
 | .pt .. => false
 | _ => true
def notSl : SV → Bool
 | .row _ => false
 | .sl .. => false
 | .v (.slice ..) => false
 | _ => true
def notStr : SV → Bool
 | .v (.string _) => false
 | .row _ => false
 | _ => true
def qOk (st : St) : Op → Prop
 | .slice _ x _ _ _ => notRow (st.ev x) = true
 | .binOp _ _ x _ _ => notSl (st.ev x) = true
 | .convert _ _ x => notStr (st.ev x) = true
 | _ => True
def qStep (T : Tab) (C : Cx) (ops : List Oper) (i : Nat) (o : Option Oper) (fps : List (Nat × Fp)) (st : St) (k : List (Nat × Fp) → St → Prop) (_ : Lk (T, C, ops, st, k)) : Prop :=
 match o with
 | some ⟨d, op, _, _, _, none⟩ => qOk st op ∧ opX T C op st (fun v st' => k (addF i (fpOf st' op) fps) (st'.put d v)) ⟨⟩
 | some ⟨d, op, _, _, _, some (j, b)⟩ => gX (gSV st ops j) b (gD (nth ops j)) st (fun st' => qOk st' op ∧ opX T C op st' (fun v st' => k (addF i (fpOf st' op) fps) (st'.put d v)) ⟨⟩) (fun st' => k fps (st'.put d (.tup []))) ⟨⟩
 | none => False
def eStep (T : Tab) (C : Cx) (ops : List Oper) (keep : List Nat) (o : Option Oper) (fps : List (Nat × Fp)) (st : St) (k : List (Nat × Fp) → St → Prop) (_ : Lk (T, C, ops, st, k)) : Prop :=
 match o with
 | some ⟨d, op, _, _, _, none⟩ => safeL st (opHt st op) fps keep ∧ opX T C op st (fun v st' => k fps (st'.put d v)) ⟨⟩
 | some ⟨d, op, _, _, _, some (j, b)⟩ => gX (gSV st ops j) b (gD (nth ops j)) st (fun st' => safeL st' (opHt st' op) fps keep ∧ opX T C op st' (fun v st' => k fps (st'.put d v)) ⟨⟩) (fun st' => k fps (st'.put d (.tup []))) ⟨⟩
 | none => False

/-- what a call is given. -/
def zArgs (o : Option Oper) (st : St) : List SV :=
 match o with
 | some ⟨_, .call { callee := .value _, args := ⟨xs⟩, .. }, _, _, _, _⟩ => xs.map st.ev
 | _ => []
/-- A region by a plan. -/
def runP (T : Tab) (C : Cx) (ops : List Oper) (plan : Plan) (fps : List (Nat × Fp)) (st : St) (K : St → Prop) (_ : Lk (T, C, ops, plan, st, K)) : Prop :=
 match plan with
 | .done => K st
 | .q i p => qStep T C ops i (nth ops i) fps st (fun fps st => runP T C ops p fps st K ⟨⟩) ⟨⟩
 | .e i keep p => eStep T C ops keep (nth ops i) fps st (fun fps st => runP T C ops p fps st K ⟨⟩) ⟨⟩
 | .e2 i ki p j kj q => eStep T C ops ki (nth ops i) fps st (fun fps st => runP T C ops p fps st K ⟨⟩) ⟨⟩ ∧ eStep T C ops kj (nth ops j) fps st (fun fps st => runP T C ops q fps st K ⟨⟩) ⟨⟩
 | .z i p => runP T C ops p fps (frzX (rowsIn st.rw (zArgs (nth ops i) st)) st) K ⟨⟩
 | .e3 i ki p j kj q m km r => eStep T C ops ki (nth ops i) fps st (fun fps st => runP T C ops p fps st K ⟨⟩) ⟨⟩ ∧ eStep T C ops kj (nth ops j) fps st (fun fps st => runP T C ops q fps st K ⟨⟩) ⟨⟩ ∧ eStep T C ops km (nth ops m) fps st (fun fps st => runP T C ops r fps st K ⟨⟩) ⟨⟩

def noSel : List Oper → Bool
 | [] => true
 | o :: l => (match o.op with | .select .. => false | .defer _ => false | _ => true) && noSel l
theorem noSel_spec : ∀ {l : List Oper}, noSel l = true → ∀ (j : Nat) (o : Oper) (cs : Array SelectCase) (b : Bool), l.toArray[j]? = some o → o.op ≠ .select cs b
 | [], _, j, o, cs, b, h => by simp at h
 | x :: l, hs, j, o, cs, b, h => by
  simp only [noSel, Bool.and_eq_true] at hs
  cases j with
  | zero => simp at h; subst h; intro e; rw [e] at hs; simp at hs
  | succ j => exact noSel_spec hs.2 j o cs b (by simpa using h)
theorem noDef_spec : ∀ {l : List Oper}, noSel l = true → ∀ (j : Nat) (o : Oper) (c : Call), l.toArray[j]? = some o → o.op ≠ .defer c
 | [], _, j, o, c, h => by simp at h
 | x :: l, hs, j, o, c, h => by
  simp only [noSel, Bool.and_eq_true] at hs
  cases j with
  | zero => simp at h; subst h; intro e; rw [e] at hs; simp at hs
  | succ j => exact noDef_spec hs.2 j o c (by simpa using h)
/-- what holds in no round holds in a round, too: no 'defer'. -/
theorem Oper.wp_Fx {ro : Option Nat} {n : Nat} {P : Program} {o : Oper} {a : Act} {w : World} {N : Act → World → Prop} {Q : Exit → Act → World → Prop} (hnd : ∀ c, o.op ≠ .defer c) (h : o.wp P a w N Q) : o.wpIn (Fx ro) n P a w N Q := by
 refine ⟨fun f _ => Fx_fn _ f, ?_⟩
 rw [Oper.semAt_eq _ _ _ hnd]
 unfold Oper.wp at h
 generalize (execOp a.eval o).run P w = r at h ⊢
 have hd : ∀ {p : Prop}, (Fx ro).depth.isSome = true → p := fun h => by rw [Fx_depth] at h; simp at h
 match r, h with
 | .ok (.value v) w', h => exact h
 | .ok .skip w', h => exact h
 | .ok (.defer d) w', h => exact h
 | .ok (.enter f args) w', h => exact ⟨hd, callsIn_Fx h⟩
 | .ok (.row row args) w', h =>
  refine ⟨hd, fun c cs hr => ?_⟩
  obtain ⟨v, w'', h1, h2⟩ := h c cs
  refine ⟨v, w'', h1, ?_⟩
  have := stepsIn_wide.2 h2
  cases ro with
  | none => exact this
  | some l => exact this
 | .halt (.panic v) w', h => exact h
theorem wpAny_Fx {ro : Option Nat} {n : Nat} {P : Program} {md : Region.Mode} {ops : Array Oper} {Q : Exit → Act → World → Prop} (hnd : ∀ (j : Nat) (o : Oper) (c : Call), ops[j]? = some o → o.op ≠ .defer c) (hQ : ¬ LetsOut Q) : ∀ (fuel : Nat) (listed : Array Bool) (a : Act) (w : World), wpAny P md ops Q fuel listed a w → wpAnyIn (Fx ro) n P md ops Q fuel listed a w
 | 0, _, _, _, h => h
 | fuel + 1, listed, a, w, h => by
  refine ⟨h.1, fun i hi => ?_⟩
  have h2 := h.2 i hi
  unfold wpOp at h2
  unfold wpOpIn
  split at h2
  ·rename_i ho
   simp only [ho]
   exact wpAny_Fx hnd hQ fuel _ _ _ h2
  ·rename_i o ho
   simp only [ho]
   split at h2
   ·rename_i hw
    rw [if_pos hw]
    rcases h2 with h2 | h2
    ·exact Oper.wp_Fx (hnd i o · ho) (Oper.wp_mono (fun a w h => wpAny_Fx hnd hQ fuel _ _ _ h) h2)
    ·exact (hQ h2.2).elim
   ·rename_i hw
    rw [if_neg hw]
    exact ⟨fun f _ => Fx_fn _ f, wpAny_Fx hnd hQ fuel _ _ _ h2⟩

/-! ### the plan is enough -/
structure PE where
 i : Nat
 fp : Fp
 B : Nat
 w0 : World
def PE.S (e : PE) : Nat × (World → Prop) := (e.i, fun w => e.fp ≠ .no → w.heap[e.B]? = e.w0.heap[e.B]?)

structure PI (ops : Array Oper) (listed : Array Bool) (fps : List (Nat × Fp)) (g : Gh) (w : World) (e : PE) : Prop where
 listed : listed.getD e.i false = true
 ok : e.fp ≠ .no → lookF fps e.i = e.fp ∧ opIs isL ops[e.i]? = true ∧ FpOk g e.fp e.B ∧ e.B < w.heap.size ∧ w.heap[e.B]? = e.w0.heap[e.B]?

theorem FpOk.gr {g g' : Gh} (h : g.Le g') {fp : Fp} {B : Nat} (hf : FpOk g fp B) : FpOk g' fp B := by
 cases fp with
 | no => trivial
 | imm => obtain ⟨f, o, h2⟩ := hf; exact ⟨f, o, h.μ f B o h2⟩
 | box k => exact ⟨by rw [h.ρ k hf.2]; exact hf.1, Nat.lt_of_lt_of_le hf.2 h.nb⟩
 | row r => exact ⟨by rw [h.σ r hf.2]; exact hf.1, Nat.lt_of_lt_of_le hf.2 h.nr⟩

theorem safe_not_hit {C : Cx} {g : Gh} {st : St} {w : World} (hm : Mem C g st w) {ht : Ht} {fp : Fp} {B : Nat} (hs : safe1 st ht fp) (hf : FpOk g fp B) (hn : fp ≠ .no) (hi0 : fp ≠ .imm) : ¬ hitG g ht B := by
 have hb : ∀ k, aliveB (nth st.bx k) = true → g.tag (g.ρ k) = .box k := fun k h => by
  rw [nth_eq] at h
  unfold aliveB at h
  split at h
  ·rename_i b hk; exact (hm.box _ _ hk).1
  ·cases h
 have hr : ∀ k B, aliveR (nth st.rw k) = true → ob (g.σ k) = some B → g.tag B = .row k := fun k B h hB => by
  rw [nth_eq] at h
  unfold aliveR at h
  split at h
  ·rename_i b hk; exact (hm.row _ _ _ _ hk).2 B hB
  ·cases h
 have hi : FpOk g .imm B → g.tag B = .imm := fun ⟨f, o, h2⟩ => (hm.imm f).2 B o h2
 cases ht with
 | no => exact fun h => h
 | all => cases fp <;> first | exact (hn rfl).elim | exact (hi0 rfl).elim | exact (hs : False).elim
 | box b =>
  intro h; simp only [hitG] at h
  cases fp with
  | no => exact hn rfl
  | imm => have h1 := hi hf; rw [h, hb b hs] at h1; cases h1
  | box k => have h1 := hb k hs.2.2; rw [← hf.1, h, hb b hs.2.1] at h1; cases h1; exact hs.1 rfl
  | row r => have h1 := hr r B hs.2 hf.1; rw [h, hb b hs.1] at h1; cases h1
 | row b =>
  intro h; simp only [hitG] at h
  cases fp with
  | no => exact hn rfl
  | imm => have h1 := hi hf; rw [hr b B hs h] at h1; cases h1
  | box k => have h1 := hb k hs.2; rw [← hf.1, hr b B hs.1 h] at h1; cases h1
  | row r => have h1 := hr r B hs.2.2 hf.1; rw [hr b B hs.2.1 h] at h1; cases h1; exact hs.1 rfl

theorem safeL_get {st : St} {ht : Ht} {fps : List (Nat × Fp)} : ∀ {l : List Nat}, safeL st ht fps l → ∀ i ∈ l, safe1 st ht (lookF fps i)
 | _ :: _, h, i, hi => (List.mem_cons.1 hi).elim (fun e => e ▸ h.1) (fun hi => safeL_get h.2 i hi)

theorem lookF_add {i : Nat} {fp : Fp} {fps : List (Nat × Fp)} : (∀ j, j ≠ i → lookF (addF i fp fps) j = lookF fps j) ∧ (fp ≠ .no → lookF (addF i fp fps) i = fp) := by
 constructor
 ·intro j hj
  have hij : ¬ i = j := fun h => hj h.symm
  cases fp <;> simp [addF, lookF, hij]
 ·intro h
  cases fp <;> first | exact absurd rfl h | simp [addF, lookF]

theorem isQ_op {T : Tab} {C : Cx} {op : Op} {st : St} {K : SV → St → Prop} {l : Lk (T, C, op, st, K)} (hq : isQ op = true) (hr : qOk st op) (h : opX T C op st K l) : qX T op st (stK K st) ⟨⟩ := by
 unfold opX at h
 split at h
 case h_7 =>
  simp only [qOk] at hr
  unfold bin3X at h
  simp only [qX]
  unfold bin3Q
  split at h
  ·exact h
  unfold bin2X at h
  split at h
  ·rename_i hx _; rw [hx] at hr; cases hr
  ·rename_i hx _; rw [hx] at hr; cases hr
  ·rename_i hx _; rw [hx] at hr; cases hr
  ·exact h
 case h_10 =>
  simp only [qOk] at hr
  unfold slcY at h
  split at h
  ·simp_all [notRow]
  ·simp_all [notRow]
  unfold slcX at h
  split at h
  ·simp_all [notRow]
  ·simp_all [notRow]
  ·exact h
 case h_11 =>
  simp only [qOk] at hr
  unfold tcC at h
  split at h
  ·simp_all [notRow]
  ·exact h
 case h_16 =>
  simp only [qOk] at hr
  unfold cvX at h
  split at h
  ·rename_i hx; rw [hx] at hr; cases hr
  ·rename_i hx; rw [hx] at hr; cases hr
  ·exact h
 all_goals first | (simp [isQ] at hq; done) | exact h

section
variable {C : Cx} {T : Tab}

theorem getD_lt {listed : Array Bool} {i : Nat} (h : listed.getD i true = false) : listed.getD i false = false ∧ i < listed.size := by
 rcases Nat.lt_or_ge i listed.size with h' | h'
 ·simp [h'] at h ⊢; exact h
 ·simp [Array.getElem?_eq_none h'] at h
theorem getD_set_self {listed : Array Bool} {i : Nat} (h : i < listed.size) : (listed.setIfInBounds i true).getD i false = true := by simp [h]

def QN (C : Cx) (K : St → Prop) (e : Exit) (a : Act) (w : World) : Prop := e = .normal ∧ ∃ g st, K st ∧ Mod C g st a w

theorem eStep_sound (hT : TabOk C.P T) (hdr : C.dr = true) {ops : List Oper} (hd : dstOps C.N ops = true) {i : Nat} {keep : List Nat} {fps : List (Nat × Fp)} {st : St} {k : List (Nat × Fp) → St → Prop} {K : St → Prop} {listed : Array Bool} {n : Nat} {lk : Lk (T, C, ops, st, k)}
  (h : eStep T C ops keep (nth ops i) fps st k lk) (hi : i ∈ Region.ready .any ops.toArray listed) (hk : keepOk ops.toArray listed i keep = true)
  (ih : ∀ st' g a w (pes : List PE), k fps st' → Mod C g st' a w → (∀ e ∈ pes, PI ops.toArray (listed.setIfInBounds i true) fps g w e) → wpAnyS C.P ops.toArray (QN C K) n (listed.setIfInBounds i true) (pes.map PE.S) a w)
  {g : Gh} {a : Act} {w : World} {pes : List PE} (hm : Mod C g st a w) (hp : ∀ e ∈ pes, PI ops.toArray listed fps g w e) :
  wpOp C.P ops.toArray (QN C K) i (fun a' w' => (∀ e ∈ dropP ops.toArray i (pes.map PE.S), e.2 w') ∧ wpAnyS C.P ops.toArray (QN C K) n (listed.setIfInBounds i true) (dropP ops.toArray i (pes.map PE.S)) a' w') a w := by
 obtain ⟨hun, o, ho, hall⟩ := mem_ready.1 hi
 have ho' : nth ops i = some o := by rw [nth_eq]; simpa using ho
 have hdo : ∀ t, o.dst = some t → t < C.N := fun t ht => by
  have := List.all_eq_true.1 hd o (by rw [nth_eq] at ho'; exact List.mem_of_getElem? ho')
  rw [ht] at this; simpa using this
 have hdrop : dropP ops.toArray i (pes.map PE.S) = (pes.filter fun e => !befB ops.toArray ops.toArray.size e.i i).map PE.S := by
  simp only [dropP, List.filter_map]; rfl
 rw [hdrop]
 -- what the op does, once it is wanted
 have run : ∀ {st1 : St}, Mod C g st1 a w → safeL st1 (opHt st1 o.op) fps keep → opX T C o.op st1 (fun v st' => k fps (st'.put o.dst v)) ⟨⟩ →
   o.wp C.P a w (fun a' w' => (∀ e ∈ (pes.filter fun e => !befB ops.toArray ops.toArray.size e.i i).map PE.S, e.2 w') ∧ wpAnyS C.P ops.toArray (QN C K) n (listed.setIfInBounds i true) ((pes.filter fun e => !befB ops.toArray ops.toArray.size e.i i).map PE.S) a' w') (QN C K) := fun {st1} hm hs hx => by
  have := (op_sound hT rfl hx g a w hm.tm hm.mem (QN C K)).1 hdr
  refine Oper.wp_mono (fun a' w' ⟨g', st', v, u, k1, k2, k3, k4, k5, k67⟩ => ?_) this
  obtain ⟨k6, k7⟩ := k67 hdr
  subst k2
  have hkeep : ∀ e ∈ pes.filter fun e => !befB ops.toArray ops.toArray.size e.i i, PI ops.toArray (listed.setIfInBounds i true) fps g' w' e := fun e he => by
   obtain ⟨he, hb⟩ := List.mem_filter.1 he
   have hpe := hp e he
   refine ⟨getD_set_true hpe.listed, fun hn => ?_⟩
   obtain ⟨e1, e2, e3, e4, e5⟩ := hpe.ok hn
   have hmem : e.i ∈ keep := by
    have hlt : e.i < ops.toArray.size := by
     cases hx : ops.toArray[e.i]? with
     | none => rw [hx] at e2; cases e2
     | some _ => exact (Array.getElem?_eq_some_iff.1 hx).1
    have := List.all_eq_true.1 hk e.i (List.mem_range.2 hlt)
    simp only [Bool.not_eq_true'] at hb
    simp only [Bool.or_eq_true, Bool.not_eq_true'] at this
    rcases this with ((h1 | h1) | h1) | h1
    ·rw [hpe.listed] at h1; cases h1
    ·rw [e2] at h1; cases h1
    ·rw [hb] at h1; cases h1
    ·simpa using h1
   have hsafe := safeL_get hs _ hmem
   rw [e1] at hsafe
   have hf := e3
   have hfr : w'.heap[e.B]? = w.heap[e.B]? := by
    by_cases h0 : e.fp = .imm
    ·rw [h0] at e3
     obtain ⟨f, ob, hob⟩ := e3
     rw [(k5.imm f).1 e.B ob (k6.μ f e.B ob hob), (hm.mem.imm f).1 e.B ob hob]
    ·exact k7 e.B e4 (safe_not_hit hm.mem hsafe hf hn h0)
   refine ⟨e1, e2, hf.gr k6, ?_, hfr.trans e5⟩
   rw [Array.getElem?_eq_getElem e4] at hfr
   exact heap_lt hfr
  refine ⟨fun s hs => ?_, ih _ g' _ w' _ k1 ⟨k4.put hdo k3, k5.put _ _⟩ hkeep⟩
  obtain ⟨e, he, rfl⟩ := List.mem_map.1 hs
  exact fun hn => ((hkeep e he).ok hn).2.2.2.2
 -- not wanted
 have skip : ∀ {st1 : St}, Mod C g st1 a w → k fps (st1.put o.dst (.tup [])) →
   (∀ e ∈ (pes.filter fun e => !befB ops.toArray ops.toArray.size e.i i).map PE.S, e.2 w) ∧ wpAnyS C.P ops.toArray (QN C K) n (listed.setIfInBounds i true) ((pes.filter fun e => !befB ops.toArray ops.toArray.size e.i i).map PE.S) (a.put o.dst undef) w := fun {st1} hm hk => by
  have hkeep : ∀ e ∈ pes.filter fun e => !befB ops.toArray ops.toArray.size e.i i, PI ops.toArray (listed.setIfInBounds i true) fps g w e := fun e he => by
   have hpe := hp e (List.mem_filter.1 he).1
   refine ⟨getD_set_true hpe.listed, fun hn => ?_⟩
   obtain ⟨e1, e2, e3, e4, e5⟩ := hpe.ok hn
   exact ⟨e1, e2, e3, e4, e5⟩
  refine ⟨fun s hs => ?_, ih _ g _ w _ hk ⟨hm.tm.put hdo ⟨#[], rfl, by simp [rels]⟩, hm.mem.put _ _⟩ hkeep⟩
  obtain ⟨e, he, rfl⟩ := List.mem_map.1 hs
  exact fun hn => ((hkeep e he).ok hn).2.2.2.2
 unfold wpOp
 simp only [ho]
 unfold eStep at h
 rw [ho'] at h
 obtain ⟨d, op, ty, ps, af, gd⟩ := o
 cases gd with
 | none =>
  simp only [] at h
  rw [if_pos (by simp [Region.wanted])]
  exact .inl (run hm h.1 h.2)
 | some q =>
  obtain ⟨j, b⟩ := q
  simp only [] at h
  obtain ⟨st1, hm1, ⟨hw, h⟩ | ⟨hw, h⟩⟩ := gX_sound (o := ⟨d, op, ty, ps, af, some (j, b)⟩) h hm rfl
  ·rw [if_pos hw]; exact .inl (run hm1 h.1 h.2)
  ·rw [if_neg (by simp [hw])]; exact skip hm1 h

theorem qStep_sound (hT : TabOk C.P T) {ops : List Oper} (hd : dstOps C.N ops = true) (hns : noSel ops = true) {i : Nat} {fps : List (Nat × Fp)} {st : St} {k : List (Nat × Fp) → St → Prop} {K : St → Prop} {listed : Array Bool} {n : Nat} {lk : Lk (T, C, ops, st, k)}
  (h : qStep T C ops i (nth ops i) fps st k lk) (hi : i ∈ Region.ready .any ops.toArray listed) (hcl : Closed ops.toArray listed) (hq : opIs isQ ops.toArray[i]? = true) (hfree : Region.free .any ops.toArray listed i = true)
  (ih : ∀ fps' st' g a w (pes : List PE), k fps' st' → Mod C g st' a w → (∀ e ∈ pes, PI ops.toArray (listed.setIfInBounds i true) fps' g w e) → wpAnyS C.P ops.toArray (QN C K) n (listed.setIfInBounds i true) (pes.map PE.S) a w)
  {g : Gh} {a : Act} {w : World} {pes : List PE} (hm : Mod C g st a w) (hp : ∀ e ∈ pes, PI ops.toArray listed fps g w e) :
  wpAnyS C.P ops.toArray (QN C K) (n + 1) listed (pes.map PE.S) a w := by
 obtain ⟨hun, o, ho, hall⟩ := mem_ready.1 hi
 obtain ⟨hun', hlt⟩ := getD_lt hun
 have ho' : nth ops i = some o := by rw [nth_eq]; simpa using ho
 have hdo : ∀ t, o.dst = some t → t < C.N := fun t ht => by
  have := List.all_eq_true.1 hd o (by rw [nth_eq] at ho'; exact List.mem_of_getElem? ho')
  rw [ht] at this; simpa using this
 have hpS : ∀ s ∈ pes.map PE.S, s.2 w := fun s hs => by
  obtain ⟨e, he, rfl⟩ := List.mem_map.1 hs
  exact fun hn => ((hp e he).ok hn).2.2.2.2
 have first : ∀ (v : Value) (S : World → Prop), YieldsIf C.P ops.toArray S o v a → S w → wpAnyS C.P ops.toArray (QN C K) n (listed.setIfInBounds i true) ((i, S) :: pes.map PE.S) (a.put o.dst v) w → wpAnyS C.P ops.toArray (QN C K) (n + 1) listed (pes.map PE.S) a w := fun v S hy hS H =>
  wpAnyS_first ho (noSel_spec hns) (fun c a w hQ => by cases hQ.1) n listed _ a w hcl (Region.free_spec ho hfree) hi hy hS hpS H
 have hq' : isQ o.op = true := by rw [ho] at hq; exact hq
 have run : ∀ {st1 : St}, Mod C g st1 a w → Region.wanted o (yielded ops.toArray a.tmps) = true → (qOk st1 o.op ∧ opX T C o.op st1 (fun v st' => k (addF i (fpOf st' o.op) fps) (st'.put o.dst v)) ⟨⟩) → wpAnyS C.P ops.toArray (QN C K) (n + 1) listed (pes.map PE.S) a w := fun {st1} hm hw hx => by
  obtain ⟨v, h1, h2⟩ := q_sound hT (o := o) rfl (isQ_op hq' hx.1 hx.2)
  obtain ⟨u, B, k1, k2, k3, k4⟩ := h1 g a w hm.tm hm.mem
  have hpe : (PE.mk i (fpOf st1 o.op) B w).S = (i, fun w' => fpOf st1 o.op ≠ .no → w'.heap[B]? = w.heap[B]?) := rfl
  refine first u (fun w' => fpOf st1 o.op ≠ .no → w'.heap[B]? = w.heap[B]?) (.inl ⟨hw, k4⟩) (fun _ => rfl) ?_
  rw [← hpe]
  refine ih _ _ g _ w (PE.mk i (fpOf st1 o.op) B w :: pes) h2 ⟨hm.tm.put hdo k1, hm.mem.put _ _⟩ fun e he => ?_
  rcases List.mem_cons.1 he with rfl | he
  ·refine ⟨getD_set_self hlt, fun hn => ⟨lookF_add.2 hn, ?_, k2, k3 hn, rfl⟩⟩
   show opIs isL ops.toArray[i]? = true
   rw [ho]
   show isL o.op = true
   replace hn : fpOf st1 o.op ≠ .no := hn
   cases hop : o.op <;> rw [hop] at hn <;> first | rfl | exact absurd rfl hn
  ·have hpe := hp e he
   refine ⟨getD_set_true hpe.listed, fun hn => ?_⟩
   obtain ⟨e1, e2, e3, e4, e5⟩ := hpe.ok hn
   have hne : e.i ≠ i := fun h => by have := hpe.listed; rw [h, hun'] at this; cases this
   exact ⟨by rw [lookF_add.1 _ hne]; exact e1, e2, e3, e4, e5⟩
 have skip : ∀ {st1 : St}, Mod C g st1 a w → Region.wanted o (yielded ops.toArray a.tmps) = false → k fps (st1.put o.dst (.tup [])) → wpAnyS C.P ops.toArray (QN C K) (n + 1) listed (pes.map PE.S) a w := fun {st1} hm hw hk => by
  have hpe : (PE.mk i .no 0 w).S = (i, fun w' => Fp.no ≠ .no → w'.heap[0]? = w.heap[0]?) := rfl
  refine first undef (fun w' => Fp.no ≠ .no → w'.heap[0]? = w.heap[0]?) (.inr ⟨hw, rfl⟩) (fun h => absurd rfl h) ?_
  rw [← hpe]
  refine ih _ _ g _ w (PE.mk i .no 0 w :: pes) hk ⟨hm.tm.put hdo ⟨#[], rfl, by simp [rels]⟩, hm.mem.put _ _⟩ fun e he => ?_
  rcases List.mem_cons.1 he with rfl | he
  ·exact ⟨getD_set_self hlt, fun hn => absurd rfl hn⟩
  ·have hpe := hp e he
   refine ⟨getD_set_true hpe.listed, fun hn => ?_⟩
   obtain ⟨e1, e2, e3, e4, e5⟩ := hpe.ok hn
   exact ⟨e1, e2, e3, e4, e5⟩
 unfold qStep at h
 rw [ho'] at h
 obtain ⟨d, op, ty, ps, af, gd⟩ := o
 cases gd with
 | none =>
  simp only [] at h
  exact run hm (by simp [Region.wanted]) h
 | some q =>
  obtain ⟨j, b⟩ := q
  simp only [] at h
  obtain ⟨st1, hm1, ⟨hw, h⟩ | ⟨hw, h⟩⟩ := gX_sound (o := ⟨d, op, ty, ps, af, some (j, b)⟩) h hm rfl
  ·exact run hm1 hw h
  ·exact skip hm1 hw h

theorem runP_sound (hT : TabOk C.P T) (hdr : C.dr = true) {ops : List Oper} (hd : dstOps C.N ops = true) (hns : noSel ops = true) {K : St → Prop} : ∀ (plan : Plan) (fuel : Nat) (listed : Array Bool) (fps : List (Nat × Fp)) (st : St) {lk : Lk (T, C, ops, plan, st, K)}, runP T C ops plan fps st K lk → planOk ops.toArray fuel listed plan = true → Closed ops.toArray listed →
  ∀ g a w (pes : List PE), Mod C g st a w → (∀ e ∈ pes, PI ops.toArray listed fps g w e) → wpAnyS C.P ops.toArray (QN C K) fuel listed (pes.map PE.S) a w
 | .done, fuel, listed, fps, st, _, h, hp, _, g, a, w, pes, hm, _ => by
  simp only [planOk] at hp
  have hr : Region.ready .any ops.toArray listed = [] := by simpa using hp
  have hq : QN C K .normal a w := ⟨rfl, g, st, h, hm⟩
  cases fuel with
  | zero => exact ⟨hr, hq⟩
  | succ n => exact ⟨fun _ => hq, by rw [hr]; simp⟩
 | .z i p, fuel, listed, fps, st, _, h, hp, hcl, g, a, w, pes, hm, hpe => by
  have hp' : planOk ops.toArray fuel listed p = true := by cases fuel <;> exact hp
  simp only [runP] at h
  obtain ⟨g', hle, ht, hmm, _, _⟩ := frz_sound (rowsIn st.rw (zArgs (nth ops i) st)) hm.tm hm.mem
  exact runP_sound hT hdr hd hns p fuel listed fps _ h hp' hcl g' a w pes ⟨ht, hmm⟩ fun e he => ⟨(hpe e he).listed, fun hn => by
   obtain ⟨e1, e2, e3, e4, e5⟩ := (hpe e he).ok hn
   exact ⟨e1, e2, e3.gr hle, e4, e5⟩⟩
 | .q i p, 0, _, _, _, _, _, hp, _, _, _, _, _, _, _ => by simp [planOk] at hp
 | .e i keep p, 0, _, _, _, _, _, hp, _, _, _, _, _, _, _ => by simp [planOk] at hp
 | .e2 .., 0, _, _, _, _, _, hp, _, _, _, _, _, _, _ => by simp [planOk] at hp
 | .e3 .., 0, _, _, _, _, _, hp, _, _, _, _, _, _, _ => by simp [planOk] at hp
 | .q i p, n + 1, listed, fps, st, _, h, hp, hcl, g, a, w, pes, hm, hpe => by
  simp only [planOk, Bool.and_eq_true] at hp
  simp only [runP] at h
  have hi : i ∈ Region.ready .any ops.toArray listed := by simpa using hp.1.1.1
  exact qStep_sound hT hd hns h hi hcl hp.1.1.2 hp.1.2 (fun fps' st' g a w pes hk hm hpe => runP_sound hT hdr hd hns p n _ fps' st' hk hp.2 (hcl.set hi) g a w pes hm hpe) hm hpe
 | .e i keep p, n + 1, listed, fps, st, _, h, hp, hcl, g, a, w, pes, hm, hpe => by
  simp only [planOk, Bool.and_eq_true, beq_iff_eq] at hp
  simp only [runP] at h
  have hi : i ∈ Region.ready .any ops.toArray listed := by rw [hp.1.1]; simp
  refine ⟨fun h0 => (by rw [h0] at hi; cases hi), fun j hj => ?_⟩
  rw [hp.1.1] at hj
  have hji : j = i := by simpa using hj
  subst hji
  exact eStep_sound hT hdr hd h hi hp.1.2 (fun st' g a w pes hk hm hpe => runP_sound hT hdr hd hns p n _ fps st' hk hp.2 (hcl.set hi) g a w pes hm hpe) hm hpe
 | .e2 i ki p j kj q, n + 1, listed, fps, st, _, h, hp, hcl, g, a, w, pes, hm, hpe => by
  simp only [planOk, Bool.and_eq_true, beq_iff_eq] at hp
  simp only [runP] at h
  obtain ⟨⟨⟨⟨hr, hki⟩, hpp⟩, hkj⟩, hpq⟩ := hp
  have hi : i ∈ Region.ready .any ops.toArray listed := by rw [hr]; simp
  have hj : j ∈ Region.ready .any ops.toArray listed := by rw [hr]; simp
  refine ⟨fun h0 => (by rw [h0] at hi; cases hi), fun x hx => ?_⟩
  rw [hr] at hx
  have hx' : x = i ∨ x = j := by simpa using hx
  rcases hx' with rfl | rfl
  ·exact eStep_sound hT hdr hd h.1 hi hki (fun st' g a w pes hk hm hpe => runP_sound hT hdr hd hns p n _ fps st' hk hpp (hcl.set hi) g a w pes hm hpe) hm hpe
  ·exact eStep_sound hT hdr hd h.2 hj hkj (fun st' g a w pes hk hm hpe => runP_sound hT hdr hd hns q n _ fps st' hk hpq (hcl.set hj) g a w pes hm hpe) hm hpe
 | .e3 i ki p j kj q m km r, n + 1, listed, fps, st, _, h, hp, hcl, g, a, w, pes, hm, hpe => by
  simp only [planOk, Bool.and_eq_true, beq_iff_eq] at hp
  simp only [runP] at h
  obtain ⟨⟨⟨⟨⟨⟨hr, hki⟩, hpp⟩, hkj⟩, hpq⟩, hkm⟩, hpr⟩ := hp
  have hi : i ∈ Region.ready .any ops.toArray listed := by rw [hr]; simp
  have hj : j ∈ Region.ready .any ops.toArray listed := by rw [hr]; simp
  have hmm : m ∈ Region.ready .any ops.toArray listed := by rw [hr]; simp
  refine ⟨fun h0 => (by rw [h0] at hi; cases hi), fun x hx => ?_⟩
  rw [hr] at hx
  have hx' : x = i ∨ x = j ∨ x = m := by simpa using hx
  rcases hx' with rfl | rfl | rfl
  ·exact eStep_sound hT hdr hd h.1 hi hki (fun st' g a w pes hk hm hpe => runP_sound hT hdr hd hns p n _ fps st' hk hpp (hcl.set hi) g a w pes hm hpe) hm hpe
  ·exact eStep_sound hT hdr hd h.2.1 hj hkj (fun st' g a w pes hk hm hpe => runP_sound hT hdr hd hns q n _ fps st' hk hpq (hcl.set hj) g a w pes hm hpe) hm hpe
  ·exact eStep_sound hT hdr hd h.2.2 hmm hkm (fun st' g a w pes hk hm hpe => runP_sound hT hdr hd hns r n _ fps st' hk hpr (hcl.set hmm) g a w pes hm hpe) hm hpe

theorem mod_dr {P : Program} {w0 : World} {N : Nat} {kp : Hp} {pin : Pin} (d d' : Bool) {g : Gh} {st : St} {a : Act} {w w' : World} (h : Mod ⟨P, w0, N, kp, pin, d⟩ g st a w) (ho : w'.os = w.os) (ht : w'.tape = w.tape) (hou : w'.output = w.output) (hh : w'.heap = w.heap) : Mod ⟨P, w0, N, kp, pin, d'⟩ g st a w' := by
 obtain ⟨⟨t1, t2, t3, t4, t5, t6, t7⟩, ⟨m1, m2, m3, m4, m5, m6, m7, m8, m9, m10, m11, ⟨h1, h2, h3, h4, h5, h6, h8, h7⟩⟩⟩ := h
 have hrow : ∀ {μ v e s els}, RowOk μ w0.heap.size w v e s els → RowOk μ w0.heap.size w' v e s els := fun hr => hr.keep fun b _ => by rw [hh]
 refine ⟨⟨t1, t2, t3, t4, t5, t6, t7⟩, ⟨ho.trans m1, ht.trans m2, hou.trans m3, by rw [hh]; exact m4, fun q b hb => by rw [hh]; exact m5 q b hb, fun b hb => m6 b (by rw [← hh]; exact hb), fun k b hk => by rw [hh]; exact m7 k b hk, fun k e s els hk => ⟨hrow (m8 k e s els hk).1, (m8 k e s els hk).2⟩, fun f => ⟨fun b o hb => by rw [hh]; exact (m9 f).1 b o hb, (m9 f).2⟩, m10, fun b hb => ⟨(m11 b hb).1, by rw [hh]; exact (m11 b hb).2⟩, ⟨fun q b hb => by rw [hh]; exact h1 q b hb, h2, h3, h4, h5, h6, by rw [hh]; exact h8, by rw [hh]; exact h7⟩⟩⟩

/-- A region that draws its order, by a plan. -/
theorem DrawW.plan {P : Program} {w0 : World} {N : Nat} {kp : Hp} {pin : Pin} {dr : Bool} (hT : TabOk P T) (hmx : P.follows .mixedOrders = true) (plan : Plan) {ops : List Oper} (hok : planOk ops.toArray ops.toArray.size (Array.replicate ops.toArray.size false) plan = true) (hns : noSel ops = true) {st : St} {K : St → Prop} (h : runP T ⟨P, w0, N, kp, pin, true⟩ ops plan [] st K ⟨⟩) : DrawW ⟨P, w0, N, kp, pin, dr⟩ ops st K ⟨⟩ := fun hd id g a w hm => by
 have hcl : Closed ops.toArray (Array.replicate ops.toArray.size false) := fun k hk => by
  rw [Array.getD_eq_getD_getElem?, Array.getElem?_replicate] at hk
  split at hk <;> cases hk
 have hm' : Mod ⟨P, w0, N, kp, pin, true⟩ g st a { w with drawn := w.drawn + 1 } := mod_dr dr true hm rfl rfl rfl rfl
 have := runP_sound (C := ⟨P, w0, N, kp, pin, true⟩) hT rfl hd hns plan _ _ [] st h hok hcl g a _ [] hm' (by simp)
 refine wpIn_mono (wpIn_region_any hmx (wpAny_Fx (noDef_spec hns) (fun ⟨_, _, hq⟩ => by cases hq.1) _ _ _ _ (wpAny_of_S _ _ [] _ _ this))) fun e a' w' hq => ?_
 obtain ⟨he, g', st', h1, h2⟩ := hq
 exact ⟨he, g', st', h1, mod_dr true dr h2 rfl rfl rfl rfl⟩
end

end Go.Vx
