/-
 Own rows in elements of own rows: aliases.
-/
import Derived.Test.YtgcmppghjfidfaaGreatDoorVIt3
namespace Go.Vx
open Go Go.RowKit
set_option linter.unusedSimpArgs false
section
variable {C : Cx} {st : St} {K : SV → St → Prop}
/-- what may be handed through a call: it says nothing of a value. -/
def aliO : SV → Bool
 | .any => true
 | .arm => true
 | .ali .. => true
 | .bxa .. => true
 | _ => false
theorem aliO_rel {g : Gh} {x : SV} {u v : Value} (h : aliO x = true) (hr : rel g x u) : rel g x v := by
 cases x <;> first | exact hr | simp [aliO] at h
def inlG2 (e : SV) (l : Option (List SV)) (tm : List (Nat × SV)) (st' : St) (K : SV → St → Prop) (_ : Lk (tm, st', K)) : Prop :=
 match l with
 | some l => aliO e = true ∧ K (normD st'.rw (tupV l)) { st' with tm := (1000000, e) :: tm }
 | none => False
def inlG (T : Tab) (rs : List ResultVar) (tm : List (Nat × SV)) (K : SV → St → Prop) (e : Exit) (st' : St) : Prop :=
 match e with
 | .normal => inlG2 (look st'.tm 1000000) (ressS T st' rs) tm st' K ⟨⟩
 | .ret => inlG2 (look st'.tm 1000000) (ressS T st' rs) tm st' K ⟨⟩
 | _ => False
theorem CallI.inlG {P : Program} {T : Tab} (hT : TabOk P T) {f : FuncId} {fn : Func} {body : Code} {rs : List ResultVar} {w0 : World} {N : Nat} {kp : Hp} {pin : Pin} {st : St} {K : SV → St → Prop} {args : List SV} {dr : Bool} (hdr : dr = true → htC args = .all) (hf : P.funcs[f]? = some fn) (hb : fn.body = some body) (hname : (fn.name == "runtime.NumGoroutine") = false) (hrs : fn.results.toList = rs)
  (hd : dstOk fn.ntmps body = true) (hargs : args.length ≤ fn.ntmps) (h : ∀ ρ σ μ fr lp, runC T ⟨P, w0, fn.ntmps, kp, ⟨st.bx.length, st.rw.length, ρ, σ, μ, pin.np, pin.ho.out fr lp⟩, false⟩ body ⟨(1000000, look st.tm 1000000) :: argI 0 args, st.bx, st.rw⟩ (inlG T rs st.tm K) ⟨⟩) (hG0 : ∃ x, aliO x = true ∧ look st.tm 1000000 = x) : CallI ⟨P, w0, N, kp, pin, dr⟩ f args st K ⟨⟩ := by
 intro g a w ht hm vs hr
 refine ⟨⟨fn, hf, hname, by simp [hb]⟩, ?_⟩
 refine calls_of_wp hf hb ?_
 obtain ⟨ds, d1, d2, d3, d4⟩ := ht.defers
 let C' : Cx := ⟨P, w0, fn.ntmps, kp, ⟨st.bx.length, st.rw.length, g.ρ, g.σ, g.μ, pin.np, pin.ho.out (fun b => frS ⟨P, w0, N, kp, pin, dr⟩ g.fo true b || decide (b ∈ ds), w) (fun b => decide (b ∈ ds) || pin.ho.lp b)⟩, false⟩
 have d5 : ∀ D ∈ ds, g.tag D = .imm ∧ w.heap[D]? = some (.deferred (some [])) := fun D hD => ⟨(hm.imm false).2 D _ (d2 D hD).1, (hm.imm false).1 D _ (d2 D hD).1⟩
 have d6 : ∀ b, frS C' g.fo true b = true ↔ (frS ⟨P, w0, N, kp, pin, dr⟩ g.fo true b = true ∨ b ∈ ds) := fun b => by simp [C', Ho.out, frS]
 have hT' : TabOk C'.P T := hT
 have hvl := rels_length hr
 have hm' : Mod C' g ⟨(1000000, look st.tm 1000000) :: argI 0 args, st.bx, st.rw⟩ { tmps := vs.toArray ++ Array.replicate (fn.ntmps - vs.toArray.size) undef, defers := [] } w := by
  refine ⟨⟨ht.nb, ht.nr, .nil _ _, by simp [C']; omega, fun t => ?_, ht.frz, by rw [ht.nb]; exact Nat.le_refl _, by rw [ht.nr]; exact Nat.le_refl _, fun _ _ => rfl, fun _ _ => rfl, .refl _⟩, hm.os, hm.tape, hm.output, hm.size, fun q b hb => ?_, hm.fresh, hm.box, hm.row, hm.imm, hm.keep, hm.np, ⟨fun q b hb => ?_, hm.hs.mp, fun b hb => ?_, fun b hb => ?_, hm.hs.jj, fun l hl => (by cases hl), hm.hs.sz, hm.hs.wy⟩⟩
  ·simp only [look]
   split
   ·obtain ⟨x, hx1, hx2⟩ := hG0; rw [hx2]; have := ht.tm 1000000; rw [hx2] at this; exact aliO_rel hx1 this
   refine argI_look args vs 0 hr t _ fun _ hlt => ?_
   have hlt : t < vs.length := by omega
   simp only [Nat.sub_zero]
   rw [List.getElem?_eq_getElem hlt]
   simp [Array.getD_eq_getD_getElem?, Array.getElem?_append, hlt]
  ·cases q
   ·exact hm.old false b hb
   ·refine ⟨rfl, ?_⟩
    rcases (d6 b).1 hb with hb | hb
    ·exact (hm.old true b hb).2
    ·exact (d5 b hb).1
  ·cases q
   ·exact hm.hs.lt false b hb
   ·rcases (d6 b).1 hb with hb | hb
    ·exact hm.hs.lt true b hb
    ·exact heap_lt (d5 b hb).2
  ·rcases (d6 b).1 hb with hb | hb
   ·exact hm.hs.nf b hb
   ·cases hmp : g.mp b with
    | false => rfl
    | true =>
     have := (hm.hs.mp b hmp).1
     rw [(d2 b hb).2.2] at this; cases this
  ·have hb' : b ∈ ds ∨ pin.ho.lp b = true := by simpa [C', Ho.out] using hb
   rcases hb' with hb' | hb'
   ·refine ⟨(d6 b).2 (.inr hb'), (d2 b hb').2.2, fun f o ho => ?_⟩
    have := (hm.imm f).1 b o ho
    rw [(d5 b hb').2] at this; cases this; rfl
   ·obtain ⟨p1, p2, p3⟩ := hm.hs.lp b hb'
    exact ⟨(d6 b).2 (.inl p1), p2, p3⟩
 refine wp_mono (wpIn_wide.1 (code_sound hT' body _ _ hd (h g.ρ g.σ g.μ _ _) g _ w hm')) fun e a' w' ⟨g', st', h1, h2⟩ => ?_
 have hle : g.Le g' := ⟨by rw [ht.nb]; exact h2.tm.pin.nb, by rw [ht.nr]; exact h2.tm.pin.nr, fun k hk => h2.tm.pin.ρ k (by rw [ht.nb] at hk; exact hk), fun k hk => h2.tm.pin.σ k (by rw [ht.nr] at hk; exact hk), h2.tm.pin.μ⟩
 have key : ∀ {l}, inlG2 (look st'.tm 1000000) (ressS T st' rs) st.tm st' K l → a'.defers = [] ∧ ∃ v, (results fn a'.tmps).run P w' = .ok v w' ∧ ∃ v', Ending.returned v = .returned v' ∧ ∃ g' st' sv, K sv st' ∧ rel g' sv v' ∧ TmOk ⟨P, w0, N, kp, pin, dr⟩ g' st' a ∧ Mem ⟨P, w0, N, kp, pin, dr⟩ g' st' w' ∧ (dr = true → g.Le g' ∧ Fr g (htC args) w w') := by
  intro l he
  refine ⟨by obtain ⟨ds, h3, _, _, h4⟩ := h2.tm.defers; rw [h3, h4 rfl]; rfl, ?_⟩
  unfold inlG2 at he
  split at he
  ·rename_i l hl
   obtain ⟨hG1, he⟩ := he
   obtain ⟨us, k1, k2⟩ := ressS_ok hT' h2.tm h2.mem rs l hl
   rw [← hrs] at k2
   have hres := results_run k2
   have hrel : rel g' (tupV l) (tupU us) := by
    match l, us, k1 with
    | [], [], _ => exact ⟨_, rfl, trivial⟩
    | [x], [u], k => exact k.1
    | x :: y :: l, u :: v :: us, k => exact ⟨_, rfl, by simpa using k⟩
   refine ⟨tupU us, hres, tupU us, rfl, g', _, _, he, rel_normD h2.tm _ _ hrel, ⟨h2.tm.nb, h2.tm.nr, ⟨ds, d1, fun D hD => ⟨hle.μ false _ _ (d2 D hD).1, (d2 D hD).2.1, (h2.mem.hs.lp D (by simp [C', Ho.out, hD])).2.1⟩, d3, d4⟩, ht.size, fun t => (by
    simp only [look]
    split
    ·exact aliO_rel hG1 (h2.tm.tm 1000000)
    ·exact rel_mono hle _ _ (ht.tm t)), h2.tm.frz, ht.pin.mono hle⟩, ⟨h2.mem.os, h2.mem.tape, h2.mem.output, h2.mem.size, fun q b hb => (by
    cases q
    ·exact h2.mem.old false b hb
    ·obtain ⟨q1, q2⟩ := h2.mem.old true b ((d6 b).2 (.inl hb))
     exact ⟨q1.trans (hm.old true b hb).1, q2⟩), h2.mem.fresh, h2.mem.box, h2.mem.row, h2.mem.imm, h2.mem.keep, h2.mem.np, ⟨fun q b hb => (by
    cases q
    ·exact h2.mem.hs.lt false b hb
    ·exact h2.mem.hs.lt true b ((d6 b).2 (.inl hb))), h2.mem.hs.mp, fun b hb => h2.mem.hs.nf b ((d6 b).2 (.inl hb)), fun b hb => ⟨(hm.hs.lp b hb).1, (h2.mem.hs.lp b (by have hb' : pin.ho.lp b = true := hb; simp [C', Ho.out, hb'])).2⟩, h2.mem.hs.jj, hm.hs.ro, h2.mem.hs.sz, h2.mem.hs.wy⟩⟩, fun hd => ⟨hle, by rw [hdr hd]; exact Fr.all⟩⟩
  ·exact he.elim
 cases e with
 | normal => exact key (l := ⟨⟩) h1
 | ret => exact key (l := ⟨⟩) h1
 | exit _ => exact h1.elim
 | goto _ => exact h1.elim
 | panic _ => exact h1.elim
 | outgrown => exact h1.elim


theorem StLe.trans {a b c : St} (h : StLe C a b) (k : StLe C b c) : StLe C a c := fun g ac w hm => by
 obtain ⟨g', h'⟩ := h g ac w hm
 exact k g' ac w h'
theorem StLe.arm : StLe C st { st with tm := (1000000, .arm) :: st.tm } := fun g a w hm =>
 ⟨g, ⟨hm.tm.nb, hm.tm.nr, hm.tm.defers, hm.tm.size, fun t => by
  simp only [look]; split
  ·exact trivial
  ·exact hm.tm.tm t, hm.tm.frz, hm.tm.pin⟩, ⟨hm.mem.os, hm.mem.tape, hm.mem.output, hm.mem.size, hm.mem.old, hm.mem.fresh, hm.mem.box, hm.mem.row, hm.mem.imm, hm.mem.keep, hm.mem.np, hm.mem.hs.same (Nat.le_refl _) rfl⟩⟩
/-- one cell told in another way. -/
theorem RdL.put {μ : Mu} {d d' : D} (hd : ∀ x, Rd μ d x → Rd μ d' x) : ∀ {l : List D} {us : List Value} {c : Nat}, l[c]? = some d → RdL μ l us → RdL μ (l.set c d') us
 | [], _, _, h, _ => by simp at h
 | x :: l, u :: us, 0, h, hr => by simp at h; subst h; simp only [RdL, List.set_cons_zero] at hr ⊢; exact ⟨hd _ hr.1, hr.2⟩
 | x :: l, u :: us, c + 1, h, hr => by simp only [RdL, List.set_cons_succ] at hr ⊢; exact ⟨hr.1, RdL.put hd (by simpa using h) hr.2⟩
 | _ :: _, [], _, _, hr => by simp [RdL] at hr
theorem RdLL.put {μ : Mu} {e e' : List D} (he : ∀ us, RdL μ e us → RdL μ e' us) : ∀ {l : List (List D)} {us : List (List Value)} {i : Nat}, l[i]? = some e → RdLL μ l us → RdLL μ (l.set i e') us
 | [], _, _, h, _ => by simp at h
 | x :: l, u :: us, 0, h, hr => by simp at h; subst h; simp only [RdLL, List.set_cons_zero] at hr ⊢; exact ⟨he _ hr.1, hr.2⟩
 | x :: l, u :: us, c + 1, h, hr => by simp only [RdLL, List.set_cons_succ] at hr ⊢; exact ⟨hr.1, RdLL.put he (by simpa using h) hr.2⟩
 | _ :: _, [], _, _, hr => by simp [RdLL] at hr
/-- the aliased row becomes immutable; where its value stands, its elements are told. -/
def closeS (k s : Nat) (ks : List (List D)) (r : Nat) (e' : TypeId) (s' : Nat) (els : List (List D)) (i c : Nat) (el : List D) (st : St) : St := { st with rw := setN (setN st.rw k (.frz s ks)) r (.own e' s' (els.set i (el.set c (.sl true s ks)))) }
def closeOk (k s : Nat) (ks : List (List D)) (r : Nat) (e' : TypeId) (s' : Nat) (els : List (List D)) (i c : Nat) (el : List D) (st : St) : Prop :=
 ∃ u e, look st.tm 1000000 = .ali k u ∧ nth st.rw k = some (.own e s ks) ∧ s ≠ 0 ∧ nth st.rw r = some (.own e' s' els) ∧ s' ≠ 0 ∧ r ≠ k ∧ els[i]? = some el ∧ el[c]? = some (.v u)
theorem close_sound {k s : Nat} {ks : List (List D)} {r : Nat} {e' : TypeId} {s' : Nat} {els : List (List D)} {i c : Nat} {el : List D} (h : closeOk k s ks r e' s' els i c el st) {g : Gh} {a : Act} {w : World} (ht : TmOk C g st a) (hm : Mem C g st w) :
  ∃ g', g.Le g' ∧ TmOk C g' (closeS k s ks r e' s' els i c el st) a ∧ Mem C g' (closeS k s ks r e' s' els i c el st) w := by
 obtain ⟨u, e, hG, hk, hs, hr, hs', hrk, hi, hc⟩ := h
 rw [nth_eq] at hk hr
 obtain ⟨g', hle, ht1, hm1⟩ := frz_one ht hm hk hs
 have hu := ht1.tm 1000000
 replace hu : rel g' (look st.tm 1000000) _ := hu
 rw [hG] at hu
 have hkl : k < st.rw.length := (List.getElem?_eq_some_iff.1 hk).1
 have hsl : Rd g'.μ (.sl true s ks) u := by
  rw [hu.1]
  exact ht1.frz k s ks (by simp [setN_eq, List.getElem?_set, hkl])
 have hr1 : (setN st.rw k (.frz s ks))[r]? = some (.own e' s' els) := by
  rw [setN_eq, List.getElem?_set, if_neg (fun h => hrk h.symm)]; exact hr
 obtain ⟨hrow, htg⟩ := hm1.row r e' s' els hr1
 have hrow' : RowOk g'.μ C.w0.heap.size w (g'.σ r) e' s' (els.set i (el.set c (.sl true s ks))) := by
  obtain ⟨h0, vss, h1, h2, h3⟩ := hrow.tab (by omega)
  exact .inl ⟨h0, vss, h1, h2, h3.put (fun us hus => hus.put (fun x hx => by simp only [Rd] at hx; rw [hx.1]; exact hsl) hc) hi⟩
 have hget : ∀ j x, (closeS k s ks r e' s' els i c el st).rw[j]? = some x → (j = r ∧ x = .own e' s' (els.set i (el.set c (.sl true s ks)))) ∨ (setN st.rw k (.frz s ks))[j]? = some x := fun j x hj => by
  simp only [closeS] at hj
  rw [setN_eq, List.getElem?_set] at hj
  split at hj
  ·split at hj
   ·cases hj; rename_i h1 _; exact .inl ⟨h1.symm, rfl⟩
   ·cases hj
  ·exact .inr hj
 refine ⟨g', hle, ⟨ht1.nb, by have := ht1.nr; simpa [closeS, setN_eq] using this, ht1.defers, ht1.size, ht1.tm, fun j z els2 hj => ?_, ht1.pin⟩, ⟨hm1.os, hm1.tape, hm1.output, hm1.size, hm1.old, hm1.fresh, hm1.box, fun j e2 z els2 hj => ?_, hm1.imm, hm1.keep, hm1.np, hm1.hs.next rfl rfl rfl (Nat.le_refl _) (fun _ _ _ ho => .inl ho) fun j z ys hj => ?_⟩⟩
 ·rcases hget j _ hj with ⟨_, h⟩ | h
  ·cases h
  ·exact ht1.frz j z els2 h
 ·rcases hget j _ hj with ⟨rfl, h⟩ | h
  ·cases h; exact ⟨hrow', htg⟩
  ·exact hm1.row j e2 z els2 h
 ·rcases hget j _ hj with ⟨_, h⟩ | h
  ·cases h
  ·exact ⟨j, h⟩
theorem StLe.close {k s : Nat} {ks : List (List D)} {r : Nat} {e' : TypeId} {s' : Nat} {els : List (List D)} {i c : Nat} {el : List D} (h : closeOk k s ks r e' s' els i c el st) : StLe C st (closeS k s ks r e' s' els i c el st) := fun g a w hm => by
 obtain ⟨g', _, h1, h2⟩ := close_sound h hm.tm hm.mem
 exact ⟨g', h1, h2⟩
theorem CallI.close {k s : Nat} {ks : List (List D)} {r : Nat} {e' : TypeId} {s' : Nat} {els : List (List D)} {i c : Nat} {el : List D} (hc : closeOk k s ks r e' s' els i c el st) {f : Nat} {args : List SV} (h : CallI C f args (closeS k s ks r e' s' els i c el st) K ⟨⟩) : CallI C f args st K ⟨⟩ := fun g a w ht hm vs hr => by
 obtain ⟨g1, hle, ht1, hm1⟩ := close_sound hc ht hm
 have := h g1 a w ht1 hm1 vs (rels_mono hle _ _ hr)
 exact ⟨this.1, this.2.mono fun e w' ⟨v, he, g', st', sv, k1, k2, k3, k4, k5⟩ => ⟨v, he, g', st', sv, k1, k2, k3, k4, fun hdr => ⟨hle.trans (k5 hdr).1, fun b hlt hn => (k5 hdr).2 b hlt (fun hh => hn (by cases args with
  | nil => exact hh
  | cons x l =>
   cases x with
   | sl b s e =>
    cases l with
    | nil => exact hh
    | cons y l => cases y <;> first | exact hh | trivial
   | _ => first | exact hh | trivial))⟩⟩⟩
end

/-! contracts whose result has an alias: own row k, in an element of another one, is this value. -/
def RetOkA (w w' : World) (kp : Hp) (r : Ret) (k : Nat) (u v : Value) : Prop :=
 Below w.heap.size w w' ∧ ∃ g : Gh, g.nb = 0 ∧ g.nr = r.rw.length ∧ rel g r.v v ∧ (∀ b, b < w.heap.size ∨ w'.heap.size ≤ b → g.tag b = .imm) ∧
  (∀ (k : Nat) (x : Rw), r.rw[k]? = some x → ∃ ety size els, x = Rw.own ety size els) ∧
  (∀ (k : Nat) (ety : TypeId) (size : Nat) (els : List (List D)), r.rw[k]? = some (Rw.own ety size els) → RowOk g.μ w.heap.size w' (g.σ k) ety size els ∧ ∀ b, ob (g.σ k) = some b → g.tag b = .row k) ∧
  (g.μ true).In w' ∧ (∀ b o, g.μ true b = some o → g.tag b = .imm ∧ (w.heap.size ≤ b ∨ ∃ o', kp b = some o')) ∧ (g.μ false = fun _ => none) ∧ rel g (.ali k u) v
def CtrA (P : Program) (f : FuncId) (args : List SV) (post : Ret → Nat → Value → Prop) : Prop :=
 Ent P f ∧ ∀ (w : World) (kp : Hp), kp.In w → ∀ vs, rels (gh0 kp w) args vs → Calls P f vs.toArray w (fun e w' => ∃ v r k u, e = .returned v ∧ post r k u ∧ RetOkA w w' kp r k u v)
theorem CallI.ctrA {C : Cx} {st : St} {K : SV → St → Prop} {f : Nat} {args cargs : List SV} {post : Ret → Nat → Value → Prop} (c : CtrA C.P f cargs post) (hv : argOk st.rw st.bx args cargs)
  (h : ∀ r k u, post r k u → K (shV st.rw.length r.v) { extSt st r with tm := (1000000, .ali (k + st.rw.length) u) :: st.tm }) : CallI C f args st K ⟨⟩ := fun g a w ht hm vs hr => by
 refine ⟨c.1, (c.2 w (g.μ true) (hm.imm true).1 vs (argOk_ok ht hm hv hr)).mono fun e w' ⟨v, r, k, u, he, hp, hb, gr, r0, r1, r2, r3, rf, r4, r5, r6, r7, r8⟩ => ?_⟩
 obtain ⟨k1, k2, k3, k4⟩ := ext_okG ht hm hb r0 r1 r3 rf r4 r5 r6 r7
 have ka := k1 _ _ r8
 simp only [shV] at ka
 refine ⟨v, he, g.join gr w.heap.size, _, _, h r k u hp, k1 _ _ r2, ⟨k2.nb, k2.nr, k2.defers, k2.size, fun t => ?_, k2.frz, k2.pin⟩, ⟨k3.os, k3.tape, k3.output, k3.size, k3.old, k3.fresh, k3.box, k3.row, k3.imm, k3.keep, k3.np, k3.hs.same (Nat.le_refl _) rfl⟩, fun _ => ⟨k4, (fr_of hb).of _⟩⟩
 simp only [look]
 split
 ·exact aliO_rel rfl ka
 ·exact k2.tm t
def EndA (v e : SV) (rw : List Rw) (post : Ret → Nat → Value → Prop) : Prop := ∃ γ r k u, post r k u ∧ (γ.filterMap id).Nodup ∧ leV [] γ v r.v ∧ leR rw r.rw γ ∧ kpV r.v ∧ kpR r.rw ∧ leV [] γ e (.ali k u)
theorem retOkA_of {P : Program} {w0 : World} {N : Nat} {kp : Hp} {g : Gh} {st : St} {a : Act} {w : World} (hm : Mod ⟨P, w0, N, kp, pin0, false⟩ g st a w) {v : SV} {u : Value} (hr : rel g v u) {post : Ret → Nat → Value → Prop} (he : EndA v (look st.tm 1000000) st.rw post) : ∃ r k x, post r k x ∧ RetOkA w0 w kp r k x u := by
 obtain ⟨γ, r, k, x, hp, hn, h1, h2, h3, h4, h5⟩ := he
 have hγ := NodupO.of_filter hn
 have hrows := ren_rows (β := []) hm hγ h2
 have ha := rel_ren (β := []) (γ := γ) _ _ _ (hm.tm.tm 1000000) h5
 refine ⟨r, k, x, hp, ⟨hm.mem.os, hm.mem.tape, hm.mem.output, hm.mem.size, fun b hb => (hm.mem.old true b (by simpa [frS, pin0, ho0] using hb)).1⟩, (g.ren [] γ).kept, rfl, (leR_len h2).symm, rel_keep _ _ h3 (rel_ren _ _ _ hr h1), fun b hb => ?_, fun k x hk => ?_, fun k e s els hk => ?_, hm.mem.imm true |>.1, fun b o hb => ⟨?_, (hm.mem.keep b o hb).1⟩, rfl, ha⟩
 ·have : g.tag b = .imm := hb.elim (fun h => (hm.mem.old true b (by simpa [frS, pin0, ho0] using h)).2) (fun h => hm.mem.fresh b h)
  simp only [Gh.kept, Gh.ren, this]
 ·obtain ⟨e, s, els, h, _⟩ := kpR_get h4 k x hk; exact ⟨e, s, els, h⟩
 ·obtain ⟨hrow, k4⟩ := hrows k e s els hk
  obtain ⟨_, _, _, h, hkp⟩ := kpR_get h4 k _ hk
  cases h
  rcases hrow with ⟨hs0, vss, k1, k2, k3⟩ | ⟨hs0, bm, ents, clk, m1', m2', m3', m4'⟩
  ·exact ⟨.inl ⟨hs0, vss, k1, k2, RdLL_keep _ _ hkp k3⟩, k4⟩
  ·exact ⟨.inr ⟨hs0, bm, ents, clk, m1', m2', m3', RdM_keep _ _ hkp m4'⟩, k4⟩
 ·have : g.tag b = .imm := (hm.mem.imm true).2 b o hb
  simp only [Gh.kept, Gh.ren, this]
def endA (l : Option (List SV)) (st : St) (post : Ret → Nat → Value → Prop) (_ : Lk (st, post)) : Prop :=
 match l with
 | some l => EndA (normD st.rw (tupV l)) (look st.tm 1000000) st.rw post
 | none => False
def finA (T : Tab) (rs : List ResultVar) (post : Ret → Nat → Value → Prop) (e : Exit) (st : St) : Prop :=
 match e with
 | .ret => endA (ressS T st rs) st post ⟨⟩
 | .normal => endA (ressS T st rs) st post ⟨⟩
 | _ => False
theorem CtrA.of {P : Program} {T : Tab} (hT : TabOk P T) {f : FuncId} {fn : Func} {body : Code} {rs : List ResultVar} {args : List SV} {post : Ret → Nat → Value → Prop} (hf : P.funcs[f]? = some fn) (hb : fn.body = some body) (hname : (fn.name == "runtime.NumGoroutine") = false) (hrs : fn.results.toList = rs)
  (hd : dstOk fn.ntmps body = true) (hargs : args.length ≤ fn.ntmps) (h : ∀ w0 kp, runC T ⟨P, w0, fn.ntmps, kp, pin0, false⟩ body (initSt args) (finA T rs post) ⟨⟩) : CtrA P f args post := by
 refine ⟨⟨fn, hf, hname, by simp [hb]⟩, fun w kp hkp vs hr => ?_⟩
 refine callsIn_wide.1 (callsIn_of_wp_marks (F := Fence.wide) (n := 0) hf hb trivial ?_ rfl)
 let C : Cx := ⟨P, w, fn.ntmps, kp, pin0, false⟩
 have hT' : TabOk C.P T := hT
 have hvl := rels_length hr
 have hm := Ctr.start (P := P) (N := fn.ntmps) hargs hkp hr
 refine wpIn_mono (code_sound hT' body _ _ hd (h w kp) _ _ w hm) fun e a' w' ⟨g', st', h1, h2⟩ => ?_
 have key : ∀ {l}, endA (ressS T st' rs) st' post l → LeavesInM Fence.wide 0 P fn a'.tmps (fun e w' => ∃ v r k u, e = .returned v ∧ post r k u ∧ RetOkA w w' kp r k u v) a'.defers .returning w' := by
  intro l he
  obtain ⟨ds, hds1, hds2, hds3, _⟩ := h2.tm.defers
  rw [hds1]
  have h3 : Mod C (g'.close ds) st' { a' with defers := [] } (closeW ds w') := h2.close hds2 (fun D hD => by simpa [frS, C, pin0, ho0] using hD) rfl
  refine leaves_marks ds w' (fun D hD => (h2.mem.imm false).1 D _ (hds2 D hD).1) hds3 ?_
  revert h3
  generalize closeW ds w' = w'
  generalize g'.close ds = g'
  intro h3
  clear h2
  have h2 := h3
  unfold endA at he
  split at he
  ·rename_i l hl
   obtain ⟨us, k1, k2⟩ := ressS_ok hT' h2.tm h2.mem rs l hl
   rw [← hrs] at k2
   have hres := results_run k2
   refine ⟨tupU us, hres, tupU us, ?_⟩
   have hrel : rel g' (tupV l) (tupU us) := by
    match l, us, k1 with
    | [], [], _ => exact ⟨_, rfl, trivial⟩
    | [x], [u], k => exact k.1
    | x :: y :: l, u :: v :: us, k => exact ⟨_, rfl, by simpa using k⟩
   obtain ⟨r, k, x, hp, hok⟩ := retOkA_of h2 (rel_normD h2.tm _ _ hrel) he
   exact ⟨r, k, x, rfl, hp, hok⟩
  ·exact he.elim
 cases e with
 | normal => exact key (l := ⟨⟩) h1
 | ret => exact key (l := ⟨⟩) h1
 | exit _ => exact h1.elim
 | goto _ => exact h1.elim
 | panic _ => exact h1.elim
 | outgrown => exact h1.elim

theorem sxY :
  (∀ k v, derK .any k v = k v) ∧ (∀ k v, derK .arm k v = k v) ∧ (∀ j u k v, derK (.ali j u) k v = k (derA j u v)) ∧
  (∀ j a n c, derA j (.slice (some a) n c) (.v (.slice (some a) n c)) = .row j) ∧ (∀ j u kd n, derA j u (.v (.int kd n)) = .v (.int kd n)) ∧ (∀ j u n, derA j u (.v (.string n)) = .v (.string n)) ∧ (∀ j u n, derA j u (.v (.bool n)) = .v (.bool n)) ∧
  (∀ j u x y, derA j u (.v (.slice none x y)) = .v (.slice none x y)) ∧ (∀ j u a b c, derA j u (.sl a b c) = .sl a b c) ∧ (∀ j u a, derA j u (.agg a) = .agg a) ∧ (∀ j u a b, derA j u (.pt a b) = .pt a b) ∧ (∀ j u a b, derA j u (.clo a b) = .clo a b) ∧
  (∀ y st K l, armX .any y st K l = K st) ∧ (∀ k u y st K l, armX (.ali k u) y st K l = K st) ∧ (∀ y st K l, armX .arm y st K l = arm2 (rowOf y) st K ⟨⟩) ∧
  (∀ st K l, arm2 none st K l = K st) ∧ (∀ k st K l, arm2 (some k) st K l = arm3 k (nth st.rw k) st K ⟨⟩) ∧
  (∀ k e s els st K l, arm3 k (some (.own e s els)) st K l = if s = 0 then False else Vc (0 < els.length) (∀ (ad : Addr) (n c : Nat), K { st with tm := (1000000, .ali k (.slice (some ad) n c)) :: st.tm }) ⟨⟩) ∧
  (∀ k s els st K l, arm3 k (some (.frz s els)) st K l = K st) ∧ (∀ k st K l, arm3 k (some .gone) st K l = K st) ∧
  (∀ x, hevE .any x = x) ∧ (∀ x, hevE .arm x = x) ∧ (∀ k u x, hevE (.ali k u) x = holdV k u x) ∧
  (∀ k u j, holdV k u (.row j) = if j = k then .v u else .row j) ∧ (∀ k u l, holdV k u (.agg l) = .agg (holdL k u l)) ∧ (∀ k u x, holdV k u (.v x) = .v x) ∧ (∀ k u a b c, holdV k u (.sl a b c) = .sl a b c) ∧ (∀ k u a b, holdV k u (.pt a b) = .pt a b) ∧ (∀ k u a b, holdV k u (.clo a b) = .clo a b) ∧ (∀ k u a b, holdV k u (.box a b) = .box a b) ∧
  (∀ k u, holdL k u [] = []) ∧ (∀ k u x l, holdL k u (x :: l) = holdV k u x :: holdL k u l) ∧
  (∀ tm bx rw y, hev ⟨tm, bx, rw⟩ y = hevE (look tm 1000000) (St.ev ⟨tm, bx, rw⟩ y)) ∧
  (∀ k, rowOf (.row k) = some k) ∧ (∀ l, rowOf (.agg l) = rowOfL l) ∧ (∀ x, rowOf (.v x) = none) ∧ (∀ a b c, rowOf (.sl a b c) = none) ∧ (∀ a b, rowOf (.pt a b) = none) ∧ (∀ a b, rowOf (.clo a b) = none) ∧ (∀ a b, rowOf (.box a b) = none) ∧
  rowOfL [] = none ∧ (∀ x l, rowOfL (x :: l) = (rowOf x).or (rowOfL l)) ∧ (∀ (k : Nat) x, (some k).or x = some k) ∧ (∀ x : Option Nat, Option.none.or x = x) ∧
  (∀ ti r i s o y K tm bx rw, stA ti r i s o y K ⟨tm, bx, rw⟩ = stR0 ti r i s o y K (frzX (rowsIn rw [hev ⟨tm, bx, rw⟩ y]) ⟨tm, bx, rw⟩) ⟨⟩) ∧
  (∀ ti n ps K tm bx rw, bsA ti n ps K ⟨tm, bx, rw⟩ = bsK ti n ps K (frzX (rowsIn rw (ps.map fun p => hev ⟨tm, bx, rw⟩ p.2)) ⟨tm, bx, rw⟩) ⟨⟩) ∧
  (∀ rw k u l, rowsIn rw (.ali k u :: l) = rwI k (nth rw k) (rowsIn rw l)) ∧ (∀ rw l, rowsIn rw (.arm :: l) = rowsIn rw l) ∧
  (∀ T rs tm K st, inlG T rs tm K .normal st = inlG2 (look st.tm 1000000) (ressS T st rs) tm st K ⟨⟩) ∧ (∀ T rs tm K st, inlG T rs tm K .ret st = inlG2 (look st.tm 1000000) (ressS T st rs) tm st K ⟨⟩) ∧
  (∀ e l tm tm' bx rw K k, inlG2 e (some l) tm ⟨tm', bx, rw⟩ K k = (aliO e = true ∧ K (normD rw (tupV l)) ⟨(1000000, e) :: tm, bx, rw⟩)) ∧
  (aliO .any = true) ∧ (aliO .arm = true) ∧ (∀ k u, aliO (.ali k u) = true) ∧
  (∀ β γ, leV β γ .arm .arm = True) ∧ (∀ β γ k u k' u', leV β γ (.ali k u) (.ali k' u') = (nth γ k' = some (some k) ∧ u = u')) ∧
  (∀ rw k u, norm rw (.ali k u) = .ali k u) ∧ (∀ rw, norm rw .arm = .arm) ∧ (∀ γ k u, renV γ (.ali k u) = .ali (idxK γ k) u) ∧ (∀ γ, renV γ .arm = .arm) ∧
  (∀ T C t m k x st K l, opX T C (.insert t m k x) st K l = upX (tlook T t) (st.ev m) (st.ev k) (st.ev x) st K ⟨⟩) ∧ (∀ T C t x i st K l, opX T C (.index t x i) st K l = ixX T (tlook T t) (st.ev x) (st.ev i) (stK K st) ⟨⟩) ∧
  (∀ st t m k x, opHt st (.insert t m k x) = htV (st.ev m)) ∧
  (∀ T C t x f st K l, opX T C (.field t x f) st K l = fldX (tlook T t) (st.ev x) f (stK K st) ⟨⟩) ∧ (∀ T t x f st k l, qX T (.field t x f) st k l = fldX (tlook T t) (st.ev x) f k ⟨⟩) ∧ (∀ s z fs n m f k l, fldX (some ⟨s, z, .st fs, n⟩) (.agg m) f k l = (n ≠ 0 ∧ fld2 (nth fs f) m k ⟨⟩)) ∧ (∀ o m k l, fld2 (some (o, 1)) m k l = fld3 (nth m o) k ⟨⟩) ∧ (∀ c k l, fld3 (some c) k l = (oneS c = true ∧ k c)) ∧
  (∀ st t x f, qOk st (.field t x f) = True) ∧ (∀ st t x f, fpOf st (.field t x f) = .no) ∧
  (∀ r i s o k l, nilX (.relt r i s o) k l = k (.relt r i s o)) ∧
  (∀ T rs post st, finA T rs post .ret st = endA (ressS T st rs) st post ⟨⟩) ∧ (∀ T rs post st, finA T rs post .normal st = endA (ressS T st rs) st post ⟨⟩) ∧ (∀ l tm bx rw post k, endA (some l) ⟨tm, bx, rw⟩ post k = EndA (normD rw (tupV l)) (look tm 1000000) rw post) ∧
  (∀ k u, isR (.ali k u) = some k) ∧ (isR .arm = none) ∧ (∀ k u, isB (.ali k u) = none) ∧ (isB .arm = none) ∧
  (∀ k s ks r e' s' els i c el tm bx rw, closeS k s ks r e' s' els i c el ⟨tm, bx, rw⟩ = ⟨tm, bx, setN (setN rw k (.frz s ks)) r (.own e' s' (els.set i (el.set c (.sl true s ks))))⟩) ∧
  (∀ s z kd n op l l' k q, agg2 (some ⟨s, z, kd, n⟩) op l l' k q = if n < 1000000 then aggX (some ⟨s, z, kd, n⟩) op (intsOf l) (intsOf l') k ⟨⟩ else aggS (n - 1000000) op (scsOf l) (scsOf l') k ⟨⟩) ∧
  (∀ c as bs k l, aggS c .eql (some as) (some bs) k l = (shOk c as = true ∧ shOk c bs = true ∧ k (.v (.bool (decide (as = bs)))))) ∧ (∀ c as bs k l, aggS c .neq (some as) (some bs) k l = (shOk c as = true ∧ shOk c bs = true ∧ k (.v (.bool (decide (as ≠ bs)))))) ∧
  (scsOf [] = some []) ∧ (∀ n l, scsOf (.v (.int .i64 n) :: l) = (scsOf l).map (.i n :: ·)) ∧ (∀ x l, scsOf (.v (.string x) :: l) = (scsOf l).map (.s x :: ·)) ∧
  (∀ c, shOk c [] = decide (c = 1)) ∧ (∀ c n l, shOk c (.i n :: l) = (decide (c % 2 = 1) && decide (2 ≤ c) && shOk (c / 2) l)) ∧ (∀ c x l, shOk c (.s x :: l) = (decide (c % 2 = 0) && decide (2 ≤ c) && shOk (c / 2) l)) := by
 refine ⟨fun _ _ => rfl, fun _ _ => rfl, fun _ _ _ _ => rfl, fun _ _ _ _ => ?_, fun _ _ _ _ => rfl, fun _ _ _ => rfl, fun _ _ _ => rfl, fun _ _ _ _ => rfl, fun _ _ _ _ _ => rfl, fun _ _ _ => rfl, fun _ _ _ _ => rfl, fun _ _ _ _ => rfl, fun _ _ _ _ => rfl, fun _ _ _ _ _ _ => rfl, fun _ _ _ _ => rfl, fun _ _ _ => rfl, fun _ _ _ _ => rfl, fun _ _ _ _ _ _ _ => rfl, fun _ _ _ _ _ _ => rfl, fun _ _ _ _ => rfl, fun _ => rfl, fun _ => rfl, fun _ _ _ => rfl, fun _ _ _ => by simp only [holdV], fun _ _ _ => by simp only [holdV], fun _ _ _ => by simp only [holdV], fun _ _ _ _ _ => by simp only [holdV], fun _ _ _ _ => by simp only [holdV], fun _ _ _ _ => by simp only [holdV], fun _ _ _ _ => by simp only [holdV], fun _ _ => by simp only [holdL], fun _ _ _ _ => by simp only [holdL], fun _ _ _ _ => rfl, fun _ => by simp only [rowOf], fun _ => by simp only [rowOf], fun _ => by simp only [rowOf], fun _ _ _ => by simp only [rowOf], fun _ _ => by simp only [rowOf], fun _ _ => by simp only [rowOf], fun _ _ => by simp only [rowOf], by simp only [rowOfL], fun _ _ => by simp only [rowOfL], fun _ _ => rfl, fun _ => by simp, fun _ _ _ _ _ _ _ _ _ _ => rfl, fun _ _ _ _ _ _ _ => rfl, fun _ _ _ _ => by simp only [rowsIn], fun _ _ => by simp only [rowsIn], fun _ _ _ _ _ => rfl, fun _ _ _ _ _ => rfl, fun _ _ _ _ _ _ _ _ => rfl, rfl, rfl, fun _ _ => rfl, fun _ _ => by simp [leV], fun _ _ _ _ _ _ => by simp [leV], fun _ _ _ => rfl, fun _ => rfl, fun _ _ _ => by simp only [renV], fun _ => by simp only [renV], fun _ _ _ _ _ _ _ _ _ => rfl, fun _ _ _ _ _ _ _ _ => rfl, fun _ _ _ _ _ => rfl, fun _ _ _ _ _ _ _ _ => rfl, fun _ _ _ _ _ _ _ => rfl, fun _ _ _ _ _ _ _ _ => rfl, fun _ _ _ _ => rfl, fun _ _ _ => rfl, fun _ _ _ _ => rfl, fun _ _ _ _ => rfl, fun _ _ _ _ _ _ => rfl, fun _ _ _ _ => rfl, fun _ _ _ _ => rfl, fun _ _ _ _ _ _ => rfl, fun _ _ => rfl, rfl, fun _ _ => rfl, rfl, fun _ _ _ _ _ _ _ _ _ _ _ _ _ => rfl, fun _ _ _ _ _ _ _ _ _ => rfl, fun _ _ _ _ _ => rfl, fun _ _ _ _ _ => rfl, rfl, fun _ _ => rfl, fun _ _ => rfl, fun _ => rfl, fun _ _ _ => rfl, fun _ _ _ => rfl⟩
 simp [derA]
theorem sxB :
  (∀ k b v f, derK (.bxa k b) f v = f (derB k b v)) ∧ (∀ k b o, derB k b (.v (.pointer (some ⟨b, o, none⟩))) = .box k o) ∧ (∀ k b, derB k b (.v (.pointer none)) = .v (.pointer none)) ∧ (∀ k b kd n, derB k b (.v (.int kd n)) = .v (.int kd n)) ∧ (∀ k b n, derB k b (.v (.string n)) = .v (.string n)) ∧ (∀ k b n, derB k b (.v (.bool n)) = .v (.bool n)) ∧
  (∀ k b a x y, derB k b (.v (.slice a x y)) = .v (.slice a x y)) ∧ (∀ k b x y z, derB k b (.sl x y z) = .sl x y z) ∧ (∀ k b x, derB k b (.agg x) = .agg x) ∧ (∀ k b x y, derB k b (.pt x y) = .pt x y) ∧ (∀ k b x y, derB k b (.clo x y) = .clo x y) ∧
  (∀ k b t x, derB k b (.v (.iface t x)) = .v (.iface t x)) ∧
  (∀ k b y st K l, armX (.bxa k b) y st K l = K st) ∧ (∀ k b x, hevE (.bxa k b) x = holdB k b x) ∧
  (∀ k b j o, holdB k b (.box j o) = if j = k then .v (.pointer (some ⟨b, o, none⟩)) else .box j o) ∧ (∀ k b l, holdB k b (.agg l) = .agg (holdBL k b l)) ∧ (∀ k b x, holdB k b (.v x) = .v x) ∧ (∀ k b x y z, holdB k b (.sl x y z) = .sl x y z) ∧ (∀ k b x y, holdB k b (.pt x y) = .pt x y) ∧ (∀ k b x y, holdB k b (.clo x y) = .clo x y) ∧ (∀ k b x, holdB k b (.row x) = .row x) ∧
  (∀ k b, holdBL k b [] = []) ∧ (∀ k b x l, holdBL k b (x :: l) = holdB k b x :: holdBL k b l) ∧
  (∀ rw k b l, rowsIn rw (.bxa k b :: l) = rowsIn rw l) ∧ (∀ k b, aliO (.bxa k b) = true) ∧ (∀ β γ k b k' b', leV β γ (.bxa k b) (.bxa k' b') = (nth β k' = some k ∧ b = b')) ∧
  (∀ rw k b, norm rw (.bxa k b) = .bxa k b) ∧ (∀ γ k b, renV γ (.bxa k b) = .bxa k b) ∧ (∀ k b, isR (.bxa k b) = none) ∧ (∀ k b, isB (.bxa k b) = some k) := by
 refine ⟨fun _ _ _ _ => rfl, fun _ _ _ => by simp [derB], fun _ _ => rfl, fun _ _ _ _ => rfl, fun _ _ _ => rfl, fun _ _ _ => rfl, fun _ _ _ _ _ => rfl, fun _ _ _ _ _ => rfl, fun _ _ _ => rfl, fun _ _ _ _ => rfl, fun _ _ _ _ => rfl, fun _ _ _ _ => rfl, fun _ _ _ _ _ _ => rfl, fun _ _ _ => rfl, fun _ _ _ _ => by simp only [holdB], fun _ _ _ => by simp only [holdB], fun _ _ _ => by simp only [holdB], fun _ _ _ _ _ => by simp only [holdB], fun _ _ _ _ => by simp only [holdB], fun _ _ _ _ => by simp only [holdB], fun _ _ _ => by simp only [holdB], fun _ _ => by simp only [holdBL], fun _ _ _ _ => by simp only [holdBL], fun _ _ _ _ => by simp only [rowsIn], fun _ _ => rfl, fun _ _ _ _ _ _ => by simp [leV], fun _ _ _ => rfl, fun _ _ _ => by simp only [renV], fun _ _ => rfl, fun _ _ => rfl⟩
theorem sxI :
  (∀ y op x v a b k c st K l, bin3X y (some ⟨a, b, .int k, c⟩) op x v st K l = bin2X (some ⟨a, b, .int k, c⟩) op x v st K ⟨⟩) ∧ (∀ y op x v a b c st K l, bin3X y (some ⟨a, b, .str, c⟩) op x v st K l = bin2X (some ⟨a, b, .str, c⟩) op x v st K ⟨⟩) ∧ (∀ y op x v a b c st K l, bin3X y (some ⟨a, b, .scalar, c⟩) op x v st K l = bin2X (some ⟨a, b, .scalar, c⟩) op x v st K ⟨⟩) ∧
  (∀ y op x v a b k c st K l, bin3X y (some ⟨a, b, .st k, c⟩) op x v st K l = bin2X (some ⟨a, b, .st k, c⟩) op x v st K ⟨⟩) ∧ (∀ y op x v a b m n k c st K l, bin3X y (some ⟨a, b, .arr m n k, c⟩) op x v st K l = bin2X (some ⟨a, b, .arr m n k, c⟩) op x v st K ⟨⟩) ∧ (∀ y op x v a b m n k q c st K l, bin3X y (some ⟨a, b, .sl m n k q, c⟩) op x v st K l = bin2X (some ⟨a, b, .sl m n k q, c⟩) op x v st K ⟨⟩) ∧
  (∀ y op x v a b m n c st K l, bin3X y (some ⟨a, b, .mp m n, c⟩) op x v st K l = bin2X (some ⟨a, b, .mp m n, c⟩) op x v st K ⟨⟩) ∧
  (∀ op x v a b c st K l, bin3X (.const .nilIface) (some ⟨a, b, .ifc, c⟩) op x v st K l = ifcX op x (stK K st) ⟨⟩) ∧
  (∀ k l, ifcX .eql (.v .nilIface) k l = k (.v (.bool true))) ∧ (∀ k l, ifcX .neq (.v .nilIface) k l = k (.v (.bool false))) ∧ (∀ t p k l, ifcX .eql (.v (.iface t p)) k l = k (.v (.bool false))) ∧ (∀ t p k l, ifcX .neq (.v (.iface t p)) k l = k (.v (.bool true))) ∧
  (∀ a b c, aggT (some ⟨a, b, .ifc, c⟩) = some false) ∧ Kd.agg .ifc = false := by
 refine ⟨fun _ _ _ _ _ _ _ _ _ _ _ => ?_, fun _ _ _ _ _ _ _ _ _ _ => ?_, fun _ _ _ _ _ _ _ _ _ _ => ?_, fun _ _ _ _ _ _ _ _ _ _ _ => ?_, fun _ _ _ _ _ _ _ _ _ _ _ _ _ => ?_, fun _ _ _ _ _ _ _ _ _ _ _ _ _ _ => ?_, fun _ _ _ _ _ _ _ _ _ _ _ _ => ?_, fun _ _ _ _ _ _ _ _ _ => rfl, fun _ _ => rfl, fun _ _ => rfl, fun _ _ _ _ => rfl, fun _ _ _ _ => rfl, fun _ _ _ => rfl, rfl⟩ <;> simp [bin3X]
theorem sxM :
  (∀ T C t n x ps st K l, opX T C (.buildSlice t n ⟨(1, x) :: ps⟩) st K l = bsG (tlook T t) n (((1, x) :: ps).map fun p => (p.1, st.ev p.2)) st K ⟨⟩) ∧ (∀ a b e es c ez m n ps st K l, bsG (some ⟨a, b, .sl e es c ez, m⟩) n ps st K l = bs2 e es n (conO (ez.map D.v) (elsOf st.rw es 1 ps)) st K ⟨⟩) ∧ (∀ z l, conO z (some l) = some (z :: l)) ∧
  (∀ T C t x st K l, opX T C (.makeInterface t x) st K l = mkiX (tlook T t) t (hevE (look st.tm 1000000) (st.ev x)) (stK K st) ⟨⟩) ∧ (∀ T t x st k l, qX T (.makeInterface t x) st k l = mkiX (tlook T t) t (hevE (look st.tm 1000000) (st.ev x)) k ⟨⟩) ∧
  (∀ T C x u a ok st K l, opX T C (.typeAssert x u a ok) st K l = tasX (tlook T a) (look st.tm 1000000) (st.ev x) a ok (stK K st) ⟨⟩) ∧
  (∀ a b kd c t w k l, mkiX (some ⟨a, b, kd, c⟩) t (.v w) k l = (kd.isI = false ∧ k (.v (.iface t w)))) ∧
  (∀ s z kd n e t w a ok k l, tasX (some ⟨s, z, kd, n⟩) e (.v (.iface t w)) a ok k l = (kd.isI = false ∧ (if t = a then k (taV ok (derE e (.v w))) else ok = true ∧ k (.tup [.any, .v (.bool false)])))) ∧
  (∀ v, taV true v = .tup [v, .v (.bool true)]) ∧ (∀ v, taV false v = v) ∧ (∀ k b v, derE (.bxa k b) v = derB k b v) ∧ (∀ v, derE .any v = v) ∧
  (Kd.isI .scalar = false) ∧ (∀ k, Kd.isI (.int k) = false) ∧ (Kd.isI .str = false) ∧ (∀ k, Kd.isI (.st k) = false) ∧ (∀ a b c, Kd.isI (.arr a b c) = false) ∧ (∀ a b c d, Kd.isI (.sl a b c d) = false) ∧ (∀ a b, Kd.isI (.mp a b) = false) ∧
  (∀ st t x, qOk st (.makeInterface t x) = True) ∧ (∀ st t x, fpOf st (.makeInterface t x) = .no) ∧ (∀ st x u a ok, qOk st (.typeAssert x u a ok) = True) ∧ (∀ st x u a ok, fpOf st (.typeAssert x u a ok) = .no) :=
 ⟨fun _ _ _ _ _ _ _ _ _ => rfl, fun _ _ _ _ _ _ _ _ _ _ _ _ => rfl, fun _ _ => rfl, fun _ _ _ _ _ _ _ => rfl, fun _ _ _ _ _ _ => rfl, fun _ _ _ _ _ _ _ _ _ => rfl, fun _ _ _ _ _ _ _ _ => rfl, fun _ _ _ _ _ _ _ _ _ _ _ => rfl, fun _ => rfl, fun _ => rfl, fun _ _ _ => rfl, fun _ => rfl, rfl, fun _ => rfl, rfl, fun _ => rfl, fun _ _ _ => rfl, fun _ _ _ _ => rfl, fun _ _ => rfl, fun _ _ _ => rfl, fun _ _ _ => rfl, fun _ _ _ _ _ => rfl, fun _ _ _ _ _ => rfl⟩
theorem sxJ : (∀ g, evG g .any = .v (.pointer (some ⟨g, 0, none⟩))) ∧ (∀ g j cs, evG g (.glo j cs) = if j = g then .pt false cs else .v (.pointer (some ⟨g, 0, none⟩))) ∧ (∀ β γ i cs i' cs', leV β γ (.glo i cs) (.glo i' cs') = (i = i' ∧ cs = cs')) ∧ (∀ rw i cs, norm rw (.glo i cs) = .glo i cs) ∧ (∀ γ i cs, renV γ (.glo i cs) = .glo i cs) ∧ (∀ i cs, isR (.glo i cs) = none) ∧ (∀ i cs, isB (.glo i cs) = none) :=
 ⟨fun _ => rfl, fun _ _ _ => rfl, fun _ _ _ _ _ _ => by simp [leV], fun _ _ _ => rfl, fun _ _ _ => by simp only [renV], fun _ _ => rfl, fun _ _ => rfl⟩
/-- what is told of a box's block from here on. -/
theorem CallI.bxa (k : Nat) {C : Cx} {f : Nat} {args : List SV} {st : St} {K : SV → St → Prop} (hk : k < st.bx.length) (h : ∀ b, CallI C f args { st with tm := (1000000, .bxa k b) :: st.tm } K ⟨⟩) : CallI C f args st K ⟨⟩ := fun g a w ht hm vs hv =>
 h (g.ρ k) g a w ⟨ht.nb, ht.nr, ht.defers, ht.size, fun t => by
  simp only [look]; split
  ·exact ⟨rfl, by rw [ht.nb]; exact hk⟩
  ·exact ht.tm t, ht.frz, ht.pin⟩ ⟨hm.os, hm.tape, hm.output, hm.size, hm.old, hm.fresh, hm.box, hm.row, hm.imm, hm.keep, hm.np, hm.hs.same (Nat.le_refl _) rfl⟩ vs hv
end Go.Vx
