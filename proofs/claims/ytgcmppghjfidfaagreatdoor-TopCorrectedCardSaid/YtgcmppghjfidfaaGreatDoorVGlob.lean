/-
 Contracts that lean on what package variables hold.
-/
import Derived.Test.YtgcmppghjfidfaaGreatDoorVKw
import Derived.Test.YtgcmppghjfidfaaGreatDoorVPure
namespace Go.Vx
open Go Go.RowKit
set_option linter.unusedSimpArgs false
set_option linter.unusedVariables false
section
variable {C : Cx} {st : St} {K : SV → St → Prop}
/-- what is said of a world holds on where what stood stands. -/
def GlOk (gl : World → Prop) : Prop := ∀ w w' : World, w.heap.size ≤ w'.heap.size → (∀ b, b < w.heap.size → w'.heap[b]? = w.heap[b]?) → gl w → gl w'
/-- A contract in worlds of which 'gl' holds. -/
def CtrK (gl : World → Prop) (P : Program) (f : FuncId) (args : List SV) (post : Ret → Prop) : Prop :=
 Ent P f ∧ ∀ (w : World) (kp : Hp), kp.In w → gl w → ∀ vs, rels (gh0 kp w) args vs → Calls P f vs.toArray w (fun e w' => ∃ v r, e = .returned v ∧ post r ∧ RetOk w w' kp r v)
theorem Ctr.k {gl : World → Prop} {P : Program} {f : FuncId} {args : List SV} {post : Ret → Prop} (c : Ctr P f args post) : CtrK gl P f args post := ⟨c.1, fun w kp hk _ vs hr => c.2 w kp hk vs hr⟩
/-- what stood at the beginning stands. -/
theorem Mem.gl {g : Gh} {w : World} {gl : World → Prop} (hG : GlOk gl) (hm : Mem C g st w) (hn : C.pin.ho.fr = none) (hg : gl C.w0) : gl w :=
 hG C.w0 w hm.size (fun b hlt => by
  have := (hm.old true b (by simp [frS, hn, hlt])).1
  rw [this]
  simp [frW, hn]) hg
theorem CallI.ctrK {gl : World → Prop} {f : Nat} {args cargs : List SV} {post : Ret → Prop} (c : CtrK gl C.P f cargs post) (hG : GlOk gl) (hg : gl C.w0) (hn : C.pin.ho.fr = none) (hv : argOk st.rw st.bx args cargs)
  (h : ∀ r, post r → K (shV st.rw.length r.v) (extSt st r)) : CallI C f args st K ⟨⟩ := fun g a w ht hm vs hr => by
 refine ⟨c.1, (c.2 w (g.μ true) (hm.imm true).1 (hm.gl hG hn hg) vs (argOk_ok ht hm hv hr)).mono fun e w' ⟨v, r, he, hp, hro⟩ => ?_⟩
 obtain ⟨g', k1, k2, k3, k4⟩ := ext_ok ht hm hro
 exact ⟨v, he, g', _, _, h r hp, k1, k2, k3, fun _ => ⟨k4, (fr_of hro.below).of _⟩⟩
theorem CallI.fnK {gl : World → Prop} {f : Nat} {args cargs : List SV} {d : SV} (c : CtrK gl C.P f cargs (fun r => r = ⟨d, []⟩)) (hG : GlOk gl) (hg : gl C.w0) (hn : C.pin.ho.fr = none) (hv : argOk st.rw st.bx args cargs)
  (h : K (shV st.rw.length d) (extSt st ⟨d, []⟩)) : CallI C f args st K ⟨⟩ := CallI.ctrK c hG hg hn hv fun r hr => by subst hr; exact h
end
/-- a library function of values, that answers a value, in worlds of which 'gl' holds. -/
theorem CtrK.vals {gl : World → Prop} {P : Program} {f : FuncId} {fn : Func} {xs : List Value} {v : SV} {u : Value} (hf : P.funcs[f]? = some fn) (hn : (fn.name == "runtime.NumGoroutine") = false) (hb : fn.body.isNone = false) (hv : ∀ g, rel g v u) (h : ∀ w, gl w → Calls P f xs.toArray w fun e w' => e = .returned u ∧ Below w.heap.size w w') : CtrK gl P f (xs.map .v) (fun rr => rr = ⟨v, []⟩) :=
 ⟨⟨fn, hf, hn, hb⟩, fun w kp hk hg vs hr => by
  rw [rels_vs hr]
  refine (h w hg).mono ?_
  rintro e w' ⟨rfl, hw⟩
  exact ⟨u, _, rfl, rfl, RetOk.plain hk hw hv⟩⟩
theorem rdLL_strs {μ : Mu} : ∀ l : List ByteArray, RdLL μ (l.map fun s => [D.v (.string s)]) (l.map fun s => [Value.string s])
 | [] => by simp [RdLL]
 | s :: l => by simp only [List.map_cons, RdLL]; exact ⟨by simp [RdL, Rd, Value.oneCell'], rdLL_strs l⟩
/-- a library function of values, that answers new texts. -/
theorem CtrK.strs {gl : World → Prop} {P : Program} {f : FuncId} {fn : Func} {xs : List Value} {e : TypeId} {l : List ByteArray} (hf : P.funcs[f]? = some fn) (hn : (fn.name == "runtime.NumGoroutine") = false) (hb : fn.body.isNone = false)
  (h : ∀ w, gl w → Calls P f xs.toArray w fun en w' => ∃ v, en = .returned v ∧ Below w.heap.size w w' ∧ w'.ownsRow w.heap.size e 1 v l.length (l.map Value.string)) :
  CtrK gl P f (xs.map .v) (fun rr => rr = ⟨.row 0, [.own e 1 (l.map fun s => [.v (.string s)])]⟩) :=
 ⟨⟨fn, hf, hn, hb⟩, fun w kp hk hg vs hr => by
  rw [rels_vs hr]
  refine (h w hg).mono ?_
  rintro en w' ⟨v, rfl, hw, ho⟩
  have hob : ∀ b, ob v = some b → w.heap.size ≤ b ∧ b < w'.heap.size := fun b hb => by
   rcases ho.2 with ⟨hv, _⟩ | ⟨gg, cap, cur, hv, h1, h2, _⟩
   ·rw [hv] at hb; simp [ob, Value.ownBlock] at hb
   ·rw [hv] at hb
    have : gg = b := by simpa [ob, Value.ownBlock] using hb
    subst this
    exact ⟨h1, (Array.getElem?_eq_some_iff.1 h2).1⟩
  refine ⟨v, _, rfl, rfl, hw, ⟨0, 1, fun _ => 0, fun _ => v, fun b => if ob v = some b then .row 0 else .imm, (fun f => if f then kp else fun _ => none), fun b => decide (b < w.heap.size), w, fun _ => false⟩, rfl, rfl, ?_, ?_, ?_, ?_, ?_, ?_, rfl⟩
  ·have hrv : RefV v := by
    rcases ho.2 with ⟨hv, _⟩ | ⟨gg, cap, cur, hv, _⟩ <;> rw [hv] <;> simp [RefV]
   simp [rel, hrv]
  ·intro b hb
   have : ¬ ob v = some b := fun h => by have := hob b h; omega
   simp [this]
  ·intro k x hk
   cases k with
   | zero => simp at hk; exact ⟨_, _, _, hk.symm⟩
   | succ k => simp at hk
  ·intro k ety size els hk
   cases k with
   | zero =>
    simp at hk
    obtain ⟨rfl, rfl, rfl⟩ := hk
    refine ⟨.inl ⟨by decide, l.map fun s => [Value.string s], ?_, ?_, rdLL_strs l⟩, fun b hb => by simp [show ob v = some b from hb]⟩
    ·have e1 : (l.map fun s => [Value.string s]).flatten = l.map Value.string := by
      generalize l = m
      induction m with
      | nil => rfl
      | cons x m ih => simp [ih]
     rw [e1, List.length_map]
     exact ho
    ·intro x hx
     obtain ⟨s, _, rfl⟩ := List.mem_map.1 hx
     rfl
   | succ k => simp at hk
  ·intro b o hb'
   have h1 := hk b o (by simpa using hb')
   have h2 : b < w.heap.size := (Array.getElem?_eq_some_iff.1 h1).1
   rw [hw.block b h2]; exact h1
  ·intro b o hb'
   have h1 := hk b o (by simpa using hb')
   have h2 : b < w.heap.size := (Array.getElem?_eq_some_iff.1 h1).1
   have : ¬ ob v = some b := fun h => by have := hob b h; omega
   exact ⟨by simp [this], .inr ⟨o, by simpa using hb'⟩⟩⟩
theorem CtrK.of {gl : World → Prop} {P : Program} {T : Tab} (hT : TabOk P T) (fz : Bool) {f : FuncId} {fn : Func} {body : Code} {rs : List ResultVar} {args : List SV} {post : Ret → Prop} (hf : P.funcs[f]? = some fn) (hb : fn.body = some body) (hname : (fn.name == "runtime.NumGoroutine") = false) (hrs : fn.results.toList = rs)
  (hd : dstOk fn.ntmps body = true) (hargs : args.length ≤ fn.ntmps) (h : ∀ w0 kp, gl w0 → runC T ⟨P, w0, fn.ntmps, kp, pin0, false⟩ body (initSt args) (finK T fz rs post) ⟨⟩) : CtrK gl P f args post := by
 refine ⟨⟨fn, hf, hname, by simp [hb]⟩, fun w kp hkp hgl vs hr => ?_⟩
 refine callsIn_wide.1 (callsIn_of_wp_marks (F := Fence.wide) (n := 0) hf hb trivial ?_ rfl)
 let C : Cx := ⟨P, w, fn.ntmps, kp, pin0, false⟩
 have hT' : TabOk C.P T := hT
 have hvl := rels_length hr
 have hm := Ctr.start (P := P) (N := fn.ntmps) hargs hkp hr
 refine wpIn_mono (code_sound hT' body _ _ hd (h w kp hgl) _ _ w hm) fun e a' w' ⟨g', st', h1, h2⟩ => ?_
 have key : ∀ {l}, endX fz (ressS T st' rs) st' post l → LeavesInM Fence.wide 0 P fn a'.tmps (fun e w' => ∃ v r, e = .returned v ∧ post r ∧ RetOk w w' kp r v) a'.defers .returning w' := by
  intro l he
  obtain ⟨ds, hds1, hds2, hds3, _⟩ := h2.tm.defers
  rw [hds1]
  have h3 : Mod C (g'.close ds) st' { a' with defers := [] } (closeW ds w') := h2.close hds2 (fun D hD => by simpa [frS, C, pin0, ho0] using hD) rfl
  refine leaves_marks ds w' (fun D hD => (h2.mem.imm false).1 D _ (hds2 D hD).1) hds3 ?_
  revert h3
  generalize closeW ds w' = w'
  generalize g'.close ds = g'
  intro h3
  clear h2
  have h2 := h3
  unfold endX at he
  split at he
  ·rename_i l hl
   obtain ⟨us, k1, k2⟩ := ressS_ok hT' h2.tm h2.mem rs l hl
   rw [← hrs] at k2
   have hres := results_run k2
   refine ⟨tupU us, hres, tupU us, ?_⟩
   have hrel : rel g' (tupV l) (tupU us) := by
    match l, us, k1 with
    | [], [], _ => exact ⟨_, rfl, trivial⟩
    | [x], [u], k => exact k.1
    | x :: y :: l, u :: v :: us, k => exact ⟨_, rfl, by simpa using k⟩
   cases fz
   ·obtain ⟨r, hp, hok⟩ := retOk_of h2 (rel_normD h2.tm _ _ hrel) he
    exact ⟨r, rfl, hp, hok⟩
   ·obtain ⟨g2, k4, k5, k6, _, _⟩ := frz_sound (rowsIn st'.rw l) h2.tm h2.mem
    obtain ⟨r, hp, hok⟩ := retOk_of ⟨k5, k6⟩ (rel_normD k5 _ _ (rel_mono k4 _ _ hrel)) he
    exact ⟨r, rfl, hp, hok⟩
  ·exact he.elim
 cases e with
 | normal => exact key (l := ⟨⟩) h1
 | ret => exact key (l := ⟨⟩) h1
 | exit _ => exact h1.elim
 | goto _ => exact h1.elim
 | panic _ => exact h1.elim
 | outgrown => exact h1.elim
end Go.Vx
