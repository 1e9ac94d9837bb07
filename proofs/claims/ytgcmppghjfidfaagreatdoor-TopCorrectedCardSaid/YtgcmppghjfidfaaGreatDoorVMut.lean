/-
 Contracts of functions that change a box of the caller's (a struct behind a pointer) and take the own rows that it names.
-/
import Derived.Test.YtgcmppghjfidfaaGreatDoorVLib
namespace Go.Vx
open Go Go.RowKit
set_option linter.unusedSimpArgs false
abbrev PostM := SV → List SV → List Rw → Prop
def EndM (ty : TypeId) (v : SV) (bx : List (Option Bx)) (rw : List Rw) (post : PostM) (_ : Lk post) : Prop :=
 ∃ γ sv cells rw', post sv cells rw' ∧ (γ.filterMap id).Nodup ∧ leV [0] γ v sv ∧ leB1 [0] γ rw (nth bx 0) ty cells ∧ leR rw rw' γ ∧ kpV sv ∧ kpVL cells ∧ kpR rw'
def endM2 (ty : TypeId) (l : Option (List SV)) (st : St) (post : PostM) (_ : Lk (st, post)) : Prop :=
 match l with
 | some l => EndM ty (normD st.rw (tupV l)) st.bx st.rw post ⟨⟩
 | none => False
def finM (T : Tab) (rs : List ResultVar) (ty : TypeId) (post : PostM) (e : Exit) (st : St) : Prop :=
 match e with
 | .normal => endM2 ty (ressS T st rs) st post ⟨⟩
 | .ret => endM2 ty (ressS T st rs) st post ⟨⟩
 | _ => False
def goneL : List (Option Nat) → List Rw → List Rw
 | [], rw => rw
 | some r :: l, rw => goneL l (setN rw r .gone)
 | none :: l, rw => goneL l rw
theorem sxMut :
  (∀ T rs ty post st, finM T rs ty post .normal st = endM2 ty (ressS T st rs) st post ⟨⟩) ∧
  (∀ T rs ty post st, finM T rs ty post .ret st = endM2 ty (ressS T st rs) st post ⟨⟩) ∧
  (∀ ty l post tm bx rw k, endM2 ty (some l) ⟨tm, bx, rw⟩ post k = EndM ty (normD rw (tupV l)) bx rw post ⟨⟩) ∧
  (∀ rw, goneL [] rw = rw) ∧
  (∀ r l rw, goneL (some r :: l) rw = goneL l (setN rw r .gone)) ∧
  (∀ l rw, goneL (none :: l) rw = goneL l rw) ∧
  (∀ β γ rw ty cs ty' cs', leB1 β γ rw (some (some ⟨ty, cs⟩)) ty' cs' = (ty = ty' ∧ leL β γ (cs.map (norm rw)) cs')) :=
 ⟨fun _ _ _ _ _ => rfl, fun _ _ _ _ _ => rfl, fun _ _ _ _ _ _ _ => rfl, fun _ => rfl, fun _ _ _ => rfl, fun _ _ => rfl, fun _ _ _ _ _ _ _ => rfl⟩
theorem goneL_len : ∀ (l : List (Option Nat)) (rw : List Rw), (goneL l rw).length = rw.length
 | [], _ => rfl
 | some r :: l, rw => by rw [goneL, goneL_len l, setN_eq, List.length_set]
 | none :: l, rw => by rw [goneL, goneL_len l]
theorem goneL_get : ∀ (l : List (Option Nat)) (rw : List Rw) (j : Nat) (x : Rw), (goneL l rw)[j]? = some x → x = .gone ∨ (rw[j]? = some x ∧ some j ∉ l)
 | [], _, _, _, h => .inr ⟨h, by simp⟩
 | some r :: l, rw, j, x, h => by
  rcases goneL_get l _ j x h with h1 | ⟨h1, h2⟩
  ·exact .inl h1
  ·rw [setN_eq, List.getElem?_set] at h1
   split at h1
   ·split at h1
    ·cases h1; exact .inl rfl
    ·cases h1
   ·rename_i hne
    refine .inr ⟨h1, ?_⟩
    simp only [List.mem_cons, Option.some.injEq, not_or]
    exact ⟨fun e => hne e.symm, h2⟩
 | none :: l, rw, j, x, h => by
  rcases goneL_get l _ j x h with h1 | ⟨h1, h2⟩
  ·exact .inl h1
  ·exact .inr ⟨h1, by simpa using h2⟩

def hoM (w0 : World) (n : Nat) : Ho := ⟨⟨0, fun _ _ _ _ _ => False⟩, none, false, some (fun _ => false, w0), fun _ => false, n⟩
/-- What such a call leaves. -/
structure MutOk (w0 w w' : World) (kp : Hp) (np : Nat → Bool) (g : Gh) (ty : TypeId) (sv : SV) (cells : List SV) (rw' : List Rw) (v : Value) : Prop where
 os : w'.os = w0.os
 tape : w'.tape = w0.tape
 output : w'.output = w0.output
 size : w0.heap.size ≤ w'.heap.size
 size2 : w.heap.size ≤ w'.heap.size
 npl : ∀ b, np b = true → b < w'.heap.size
 lent : (g.μ false).In w'
 mem : ∃ gr : Gh, gr.nb = 0 ∧ gr.nr = rw'.length ∧ rel gr sv v ∧ (∃ cs, w'.heap[g.ρ 0]? = some (.cells cs ty (0, 0)) ∧ rels gr cells cs.toList) ∧ gr.tag (g.ρ 0) = .box 0 ∧
  (∀ b, (w'.heap.size ≤ b ∨ np b = true ∨ ∃ o, g.μ false b = some o) → gr.tag b = .imm) ∧
  (∀ (k : Nat) (x : Rw), rw'[k]? = some x → ∃ ety size els, x = Rw.own ety size els) ∧
  (∀ (k : Nat) (ety : TypeId) (size : Nat) (els : List (List D)), rw'[k]? = some (Rw.own ety size els) → RowOk gr.μ w0.heap.size w' (gr.σ k) ety size els ∧ ∀ b, ob (gr.σ k) = some b → gr.tag b = .row k) ∧
  (g.μ true).Le (gr.μ true) ∧ (gr.μ true).In w' ∧ (∀ b o, gr.μ true b = some o → gr.tag b = .imm ∧ (w0.heap.size ≤ b ∨ ∃ o', kp b = some o') ∧ np b = false) ∧ gr.μ false = fun _ => none

/-- The contract of a function whose first argument is a pointer to a box: what is in the box, rows that it names, the other arguments. -/
def CtrM (P : Program) (f : FuncId) (ty : TypeId) (cells : List SV) (rw : List Rw) (args : List SV) (post : PostM) : Prop :=
 Ent P f ∧ ∀ (w0 w : World) (np : Nat → Bool) (kp : Hp) (g : Gh), g.nb = 1 → g.nr = rw.length → (∀ N, Mem ⟨P, w0, N, kp, ⟨1, 0, g.ρ, g.σ, g.μ, np, hoM w0 w.heap.size⟩, false⟩ g ⟨[], [some ⟨ty, cells⟩], rw⟩ w) →
  ∀ vs, rels g (.box 0 0 :: args) vs → Calls P f vs.toArray w (fun e w' => ∃ v sv cells' rw', e = .returned v ∧ post sv cells' rw' ∧ MutOk w0 w w' kp np g ty sv cells' rw' v)

theorem leB1_inv {β : List Nat} {γ : List (Option Nat)} {rw : List Rw} {x : Option (Option Bx)} {ty : TypeId} {cells : List SV} (h : leB1 β γ rw x ty cells) : ∃ cs, x = some (some ⟨ty, cs⟩) ∧ leL β γ (cs.map (norm rw)) cells := by
 unfold leB1 at h
 split at h
 ·obtain ⟨rfl, h⟩ := h; exact ⟨_, rfl, h⟩
 ·exact h.elim

theorem endM_ok {P : Program} {w0 : World} {N : Nat} {kp : Hp} {g0 g : Gh} {np : Nat → Bool} {st : St} {a : Act} {w : World} {wi : World} (hm : Mod ⟨P, w0, N, kp, ⟨1, 0, g0.ρ, g0.σ, g0.μ, np, hoM w0 wi.heap.size⟩, false⟩ g st a w) {ty : TypeId} {v : SV} {u : Value} (hr : rel g v u) {post : PostM} {l : Lk post} (he : EndM ty v st.bx st.rw post l) :
  ∃ sv cells rw', post sv cells rw' ∧ MutOk w0 wi w kp np g0 ty sv cells rw' u := by
 obtain ⟨γ, sv, cells, rw', hp, hn, h1, h2, h3, h4, h5, h6⟩ := he
 have hγ := NodupO.of_filter hn
 have hrows := ren_rows (β := [0]) hm hγ h3
 have hρ : g.ρ 0 = g0.ρ 0 := hm.tm.pin.ρ 0 (by simp)
 have hμ : g0.μ.Le g.μ := hm.tm.pin.μ
 obtain ⟨cs', hk, h2⟩ := leB1_inv h2
 rw [nth_eq] at hk
 focus
  obtain ⟨m1, cs, m2, m3⟩ := hm.mem.box _ _ hk
  have htag : ∀ b, g.tag b = .imm → (g.ren [0] γ).kept.tag b = .imm := fun b hb => by simp only [Gh.kept, Gh.ren, hb]
  refine ⟨sv, cells, rw', hp, ⟨hm.mem.os, hm.mem.tape, hm.mem.output, hm.mem.size, hm.mem.hs.sz, fun b hb => (hm.mem.np b hb).2, fun b o hb => (hm.mem.imm false).1 b o (hμ false b o hb), (g.ren [0] γ).kept, rfl, (leR_len h3).symm, rel_keep _ _ h4 (rel_ren _ _ _ hr h1), ⟨cs, by rw [← hρ]; exact m2, rels_keep _ _ h5 (rels_ren _ _ _ (rels_norm hm.tm m3) h2)⟩, ?_, ?_, fun k x hk => ?_, fun k e s els hk => ?_, fun b o hb => ?_, hm.mem.imm true |>.1, fun b o hb => ⟨?_, (hm.mem.keep b o hb)⟩, rfl⟩⟩
  ·rw [← hρ]; simp only [Gh.kept, Gh.ren, m1, idxN, if_true]
  ·rintro b (hb | hb | ⟨o, hb⟩)
   ·exact htag b (hm.mem.fresh b hb)
   ·exact htag b (hm.mem.np b hb).1
   ·exact htag b ((hm.mem.imm false).2 b o (hμ false b o hb))
  ·obtain ⟨e, s, els, h, _⟩ := kpR_get h6 k x hk; exact ⟨e, s, els, h⟩
  ·obtain ⟨hrow, k4⟩ := hrows k e s els hk
   obtain ⟨_, _, _, h, hkp⟩ := kpR_get h6 k _ hk
   cases h
   rcases hrow with ⟨hs0, vss, k1, k2, k3⟩ | ⟨hs0, bm, ents, clk, m1', m2', m3', m4'⟩
   ·exact ⟨.inl ⟨hs0, vss, k1, k2, RdLL_keep _ _ hkp k3⟩, k4⟩
   ·exact ⟨.inr ⟨hs0, bm, ents, clk, m1', m2', m3', RdM_keep _ _ hkp m4'⟩, k4⟩
  ·have := hμ true b o hb
   simpa [Gh.kept, Gh.ren, keepMu] using this
  ·exact htag b ((hm.mem.imm true).2 b o hb)

theorem CtrM.of {P : Program} {T : Tab} (hT : TabOk P T) {f : FuncId} {fn : Func} {body : Code} {rs : List ResultVar} {ty : TypeId} {cells : List SV} {rw : List Rw} {args : List SV} {post : PostM} (hf : P.funcs[f]? = some fn) (hb : fn.body = some body) (hname : (fn.name == "runtime.NumGoroutine") = false) (hrs : fn.results.toList = rs)
  (hd : dstOk fn.ntmps body = true) (hargs : args.length + 1 ≤ fn.ntmps) (hown : ∀ (k : Nat) s els, rw[k]? = some (Rw.frz s els) → False) (h : ∀ w0 kp ρ σ μ np n, runC T ⟨P, w0, fn.ntmps, kp, ⟨1, 0, ρ, σ, μ, np, hoM w0 n⟩, false⟩ body ⟨argI 0 (.box 0 0 :: args), [some ⟨ty, cells⟩], rw⟩ (finM T rs ty post) ⟨⟩) : CtrM P f ty cells rw args post := by
 refine ⟨⟨fn, hf, hname, by simp [hb]⟩, fun w0 w np kp g hnb hnr hm vs hr => ?_⟩
 refine calls_of_wp hf hb ?_
 have hm := hm fn.ntmps
 let C : Cx := ⟨P, w0, fn.ntmps, kp, ⟨1, 0, g.ρ, g.σ, g.μ, np, hoM w0 w.heap.size⟩, false⟩
 have hT' : TabOk C.P T := hT
 have hvl := rels_length hr
 simp only [List.length_cons] at hvl
 have hm : Mod C g ⟨argI 0 (.box 0 0 :: args), [some ⟨ty, cells⟩], rw⟩ { tmps := vs.toArray ++ Array.replicate (fn.ntmps - vs.toArray.size) undef, defers := [] } w := by
  refine ⟨⟨hnb, hnr, .nil _ _, by simp [C]; omega, fun t => ?_, fun k s e hk => (hown k s e hk).elim, ⟨by rw [hnb]; exact Nat.le_refl _, Nat.zero_le _, fun _ _ => rfl, fun _ _ => rfl, .refl _⟩⟩, hm.os, hm.tape, hm.output, hm.size, hm.old, hm.fresh, hm.box, hm.row, hm.imm, hm.keep, hm.np, hm.hs.same (Nat.le_refl _) rfl⟩
  refine argI_look (.box 0 0 :: args) vs 0 hr t _ fun _ hlt => ?_
  have hlt : t < vs.length := by omega
  simp only [Nat.sub_zero]
  rw [List.getElem?_eq_getElem hlt]
  simp [Array.getD_eq_getD_getElem?, Array.getElem?_append, hlt]
 refine wp_mono (wpIn_wide.1 (code_sound hT' body _ _ hd (h w0 kp g.ρ g.σ g.μ np w.heap.size) _ _ w hm)) fun e a' w' ⟨g', st', h1, h2⟩ => ?_
 have key : ∀ {l}, endM2 ty (ressS T st' rs) st' post l → a'.defers = [] ∧ ∃ v, (results fn a'.tmps).run P w' = .ok v w' ∧ ∃ v' sv cells' rw', Ending.returned v = .returned v' ∧ post sv cells' rw' ∧ MutOk w0 w w' kp np g ty sv cells' rw' v' := by
  intro l he
  refine ⟨by obtain ⟨ds, h3, _, _, h4⟩ := h2.tm.defers; rw [h3, h4 rfl]; rfl, ?_⟩
  unfold endM2 at he
  split at he
  ·rename_i l hl
   obtain ⟨us, k1, k2⟩ := ressS_ok hT' h2.tm h2.mem rs l hl
   rw [← hrs] at k2
   have hres := results_run k2
   have hrel : rel g' (tupV l) (tupU us) := by
    match l, us, k1 with
    | [], [], _ => exact ⟨_, rfl, trivial⟩
    | [x], [u], k => exact k.1
    | x :: y :: l, u :: v :: us, k => exact ⟨_, rfl, by simpa using k⟩
   obtain ⟨sv, cells', rw', hp, hok⟩ := endM_ok h2 (rel_normD h2.tm _ _ hrel) he
   exact ⟨tupU us, hres, tupU us, sv, cells', rw', rfl, hp, hok⟩
  ·exact he.elim
 cases e with
 | normal => obtain ⟨k1, v, k2, k3⟩ := key (l := ⟨⟩) h1; exact ⟨k1, v, k2, k3⟩
 | ret => obtain ⟨k1, v, k2, k3⟩ := key (l := ⟨⟩) h1; exact ⟨k1, v, k2, k3⟩
 | exit _ => exact h1.elim
 | goto _ => exact h1.elim
 | panic _ => exact h1.elim
 | outgrown => exact h1.elim

theorem noFrz0 : ∀ (k : Nat) s els, ([] : List Rw)[k]? = some (Rw.frz s els) → False := fun k s els h => by simp at h
theorem noFrz1 (e : TypeId) (n : Nat) (l : List (List D)) : ∀ (k : Nat) s els, [Rw.own e n l][k]? = some (Rw.frz s els) → False := fun k s els h => by
 match k, h with
 | 0, h => simp at h
 | k + 1, h => simp at h
theorem EndM.r {ty : TypeId} {v : SV} {bx : List (Option Bx)} {rw : List Rw} {post : PostM} {l : Lk post} (γ : List (Option Nat)) (sv : SV) (cells : List SV) (rw' : List Rw) (hp : post sv cells rw') (hγ : (γ.filterMap id).Nodup) (h1 : leV [0] γ v sv) (h2 : leB1 [0] γ rw (nth bx 0) ty cells) (h3 : leR rw rw' γ) (k1 : kpV sv) (k2 : kpVL cells) (k3 : kpR rw') : EndM ty v bx rw post l :=
 ⟨γ, sv, cells, rw', hp, hγ, h1, h2, h3, k1, k2, k3⟩

/-! ### a call by such a contract -/
def tagNp (t : Tag) (k : Nat) (γ : List (Option Nat)) : Bool :=
 match t with
 | .imm => false
 | .box j => match idxN [k] j with
  | some _ => false
  | none => true
 | .row j => match idxO γ j with
  | some _ => false
  | none => true
def mutT (n k : Nat) : Tag → Tag
 | .imm => .imm
 | .box 0 => .box k
 | .box _ => .imm
 | .row j => .row (j + n)
def Gh.lendM (g : Gh) (w : World) (k : Nat) (γ : List (Option Nat)) : Gh :=
 { g.ren [k] γ with fo := fun _ => false, wy := w, mp := fun _ => false, μ := fun f => if f then g.μ true else fun b => match (g.ren [k] γ).tag b with
  | .imm => w.heap[b]?
  | _ => none }
def Gh.mutM (g gr : Gh) (k : Nat) (γ : List (Option Nat)) : Gh where
 nb := g.nb
 nr := g.nr + gr.nr
 ρ := g.ρ
 σ := fun j => if j < g.nr then g.σ j else gr.σ (j - g.nr)
 tag := fun b => if tagNp (g.tag b) k γ = true then g.tag b else mutT g.nr k (gr.tag b)
 μ := fun f => if f then gr.μ true else g.μ false
 fo := g.fo
 wy := g.wy
 mp := g.mp

mutual
theorem rel_shM {gr g2 : Gh} {n : Nat} (h0 : gr.nb = 0) (hμ : gr.μ.Le g2.μ) (hσ : ∀ j, g2.σ (j + n) = gr.σ j) (hnr : g2.nr = n + gr.nr) : ∀ (v : SV) (u : Value), rel gr v u → rel g2 (shV n v) u
 | .any, _, _ => by simp [shV, rel]
 | .v _, _, h => by simp only [shV]; exact h
 | .sl .., _, h => by simp only [shV]; exact Rd.mono hμ _ _ h
 | .pt .., _, h => by simp only [shV]; exact Rd.mono hμ _ _ h
 | .box k _, _, h => by have := h.2; omega
 | .row k, u, h => by
  simp only [shV]
  exact ⟨by rw [h.1, hσ], h.2.1, by have := h.2.2; omega⟩
 | .relt k i s o, u, ⟨b, h1, h2, h3⟩ => by
  simp only [shV]
  exact ⟨b, by rw [hσ]; exact h1, h2, by omega⟩
 | .agg l, u, ⟨cs, h1, h2⟩ => by simp only [shV]; exact ⟨cs, h1, rels_shM h0 hμ hσ hnr l _ h2⟩
 | .tup l, u, ⟨cs, h1, h2⟩ => by simp only [shV]; exact ⟨cs, h1, rels_shM h0 hμ hσ hnr l _ h2⟩
 | .clo _ l, u, ⟨cs, h1, h2⟩ => by simp only [shV]; exact ⟨cs, h1, rels_shM h0 hμ hσ hnr l _ h2⟩
 | .arm, _, _ => by simp [shV, rel]
 | .ali k v, u, h => by
  simp only [shV]
  exact ⟨by rw [h.1, hσ], h.2.1, by have := h.2.2; omega⟩
 | .bxa k b, _, h => by have := h.2; omega
 | .glo .., _, h => by simp only [shV]; exact RdC.mono hμ _ _ _ _ h
 | .cap .., _, h => by simp only [shV]; exact ⟨Rd.mono hμ _ _ h.1, h.2⟩
theorem rels_shM {gr g2 : Gh} {n : Nat} (h0 : gr.nb = 0) (hμ : gr.μ.Le g2.μ) (hσ : ∀ j, g2.σ (j + n) = gr.σ j) (hnr : g2.nr = n + gr.nr) : ∀ (l : List SV) (us : List Value), rels gr l us → rels g2 (shL n l) us
 | [], [], _ => by simp [shL, rels]
 | x :: l, u :: us, h => by simp only [shL]; exact ⟨rel_shM h0 hμ hσ hnr x u h.1, rels_shM h0 hμ hσ hnr l us h.2⟩
 | [], _ :: _, h => h.elim
 | _ :: _, [], h => h.elim
end

theorem ren_tagNp {g : Gh} {k : Nat} {γ : List (Option Nat)} {b : Nat} (h : tagNp (g.tag b) k γ = true) : (g.ren [k] γ).tag b = .imm ∧ g.tag b ≠ .imm := by
 simp only [Gh.ren]
 unfold tagNp at h
 split at h
 ·cases h
 ·rename_i j hj
  split at h
  ·cases h
  ·rename_i hi
   exact ⟨by simp only [hj, hi], by rw [hj]; exact fun e => by cases e⟩
 ·rename_i j hj
  split at h
  ·cases h
  ·rename_i hi
   exact ⟨by simp only [hj, hi], by rw [hj]; exact fun e => by cases e⟩
theorem tagNp_imm {g : Gh} {k : Nat} {γ : List (Option Nat)} {b : Nat} (h : g.tag b = .imm) : tagNp (g.tag b) k γ = false := by
 rw [h]; rfl

section
variable {C : Cx} {st : St} {K : SV → St → Prop}
theorem CallI.ctrM {f : Nat} {ty : TypeId} {k : Nat} {γ : List (Option Nat)} {cells : List SV} {rw0 : List Rw} {args cargs : List SV} {post : PostM} (c : CtrM C.P f ty cells rw0 cargs post) (hall : htC args = .all) (hargs : leL [k] γ args (.box 0 0 :: cargs)) (hγ : (γ.filterMap id).Nodup)
  (hb : leB1 [k] γ st.rw (nth st.bx k) ty cells) (hr : leR st.rw rw0 γ) (hng : ∀ (j : Nat) s ys, rw0[j]? = some (Rw.gh s ys) → False)
  (h : ∀ sv cells' rw', post sv cells' rw' → K (shV st.rw.length sv) ⟨st.tm, setN st.bx k (some ⟨ty, shL st.rw.length cells'⟩), goneL γ st.rw ++ rw'⟩) : CallI C f args st K ⟨⟩ := fun g a w ht hm vs hvs => by
 have hγ := NodupO.of_filter hγ
 obtain ⟨cs', hk, hb⟩ := leB1_inv hb
 rw [nth_eq] at hk
 obtain ⟨m1, cs, m2, m3⟩ := hm.box _ _ hk
 have hkl : k < st.bx.length := (List.getElem?_eq_some_iff.1 hk).1
 let np : Nat → Bool := fun b => (C.pin.np b || (g.mp b || (C.pin.ho.lp b && (g.μ true b).isNone))) || (decide (b < w.heap.size) && tagNp (g.tag b) k γ)
 let g0 := g.lendM w k γ
 have hle0 : (g.ren [k] γ).Le g0 := ⟨Nat.le_refl _, Nat.le_refl _, fun _ _ => rfl, fun _ _ => rfl, fun f b o hbo => by
  cases f
  ·have : (g.ren [k] γ).tag b = .imm := by simp only [Gh.ren, (hm.imm false).2 b o hbo]
   simp only [g0, Gh.lendM, Bool.false_eq_true, if_false, this]
   exact (hm.imm false).1 b o hbo
  ·simpa [g0, Gh.lendM, Gh.ren] using hbo⟩
 have htag0 : ∀ b, g.tag b = .imm → g0.tag b = .imm := fun b hb => by simp only [g0, Gh.lendM, Gh.ren, hb]
 have hg0t : ∀ b, g0.tag b = (g.ren [k] γ).tag b := fun _ => rfl
 have hmp2 : ∀ b, g.mp b = true → g.tag b = .imm ∧ b < w.heap.size := fun b hb => ⟨(hm.old false b (hm.hs.mp b hb).1).2, hm.hs.lt false b (hm.hs.mp b hb).1⟩
 have hlp2 : ∀ b, C.pin.ho.lp b = true → g.tag b = .imm ∧ b < w.heap.size := fun b hb => ⟨(hm.old true b (hm.hs.lp b hb).1).2, hm.hs.lt true b (hm.hs.lp b hb).1⟩
 have hnp : ∀ b, np b = true → (C.pin.np b = true ∨ g.mp b = true ∨ C.pin.ho.lp b = true) ∨ (b < w.heap.size ∧ tagNp (g.tag b) k γ = true) := fun b hb => by
  simp only [np, Bool.or_eq_true, Bool.and_eq_true, decide_eq_true_eq] at hb
  rcases hb with (hb | hb | hb) | hb
  ·exact .inl (.inl hb)
  ·exact .inl (.inr (.inl hb))
  ·exact .inl (.inr (.inr hb.1))
  ·exact .inr hb
 have hrows := ren_rows (β := [k]) ⟨ht, hm⟩ hγ hr
 have hmem0 : ∀ N, Mem ⟨C.P, C.w0, N, C.kp, ⟨1, 0, g0.ρ, g0.σ, g0.μ, np, hoM C.w0 w.heap.size⟩, false⟩ g0 ⟨[], [some ⟨ty, cells⟩], rw0⟩ w := fun N => by
  refine ⟨hm.os, hm.tape, hm.output, hm.size, fun q b hb => (by cases q <;> cases hb), fun b hb => htag0 b (hm.fresh b hb), fun j b hj => ?_, fun j e s els hj => ?_, fun f => ?_, fun b o hbo => ?_, fun b hb => ?_, ⟨fun q b hb => (by cases q <;> cases hb), fun b hb => (by cases hb), fun b hb => (by cases hb), fun b hb => (by cases hb), fun j s ys hj => ?_, fun l hl => (by cases hl), Nat.le_refl _, ⟨Nat.le_refl _, hm.os, hm.tape, hm.output⟩⟩⟩
  ·match j, hj with
   | 0, hj =>
    simp at hj; subst hj
    have hρ : g0.ρ 0 = g.ρ k := rfl
    rw [hρ]
    refine ⟨?_, cs, m2, rels_mono hle0 _ _ (rels_ren _ _ _ (rels_norm ht m3) hb)⟩
    simp only [g0, Gh.lendM, Gh.ren, m1, idxN, if_true]
   | j + 1, hj => simp at hj
  ·obtain ⟨h1, h2⟩ := hrows j e s els hj
   exact ⟨h1.mono hle0.μ, h2⟩
  ·cases f
   ·have hd : ∀ b o, g0.μ false b = some o → g0.tag b = .imm ∧ w.heap[b]? = some o := fun b o hbo => by
     simp only [g0, Gh.lendM, Bool.false_eq_true, if_false] at hbo
     cases ht2 : (g.ren [k] γ).tag b <;> rw [ht2] at hbo
     ·exact ⟨ht2, hbo⟩
     ·cases hbo
     ·cases hbo
    exact ⟨fun b o hbo => (hd b o hbo).2, fun b o hbo => (hd b o hbo).1⟩
   ·exact ⟨(hm.imm true).1, fun b o hbo => htag0 b ((hm.imm true).2 b o hbo)⟩
  ·have hbo : g.μ true b = some o := by simpa [g0, Gh.lendM] using hbo
   obtain ⟨h1, h2⟩ := hm.keep b o hbo
   refine ⟨h1, ?_⟩
   have h3 : g.mp b = false := by
    cases h3 : g.mp b with
    | false => rfl
    | true => have := (hm.hs.mp b h3).2 true; rw [hbo] at this; cases this
   simp [np, h2, h3, hbo, tagNp_imm ((hm.imm true).2 b o hbo)]
  ·rcases hnp b hb with (hb | hb | hb) | ⟨hb, hb2⟩
   ·exact ⟨htag0 b (hm.np b hb).1, (hm.np b hb).2⟩
   ·exact ⟨htag0 b (hmp2 b hb).1, (hmp2 b hb).2⟩
   ·exact ⟨htag0 b (hlp2 b hb).1, (hlp2 b hb).2⟩
   ·exact ⟨(ren_tagNp hb2).1, hb⟩
  ·exact (hng j s ys hj).elim
 refine ⟨c.1, (c.2 C.w0 w np C.kp g0 rfl (leR_len hr).symm hmem0 vs (rels_mono hle0 _ _ (rels_ren _ _ _ hvs hargs))).mono fun e w' ⟨v, sv, cells', rw', he, hp, hok⟩ => ?_⟩
 obtain ⟨o1, o2, o3, o4, o5, o6, o7, gr, r0, r1, r2, ⟨cs2, r3, r4⟩, r5, r6, rf, r7, r8, r9, r10, r11⟩ := hok
 let g2 := g.mutM gr k γ
 have hμt : g2.μ true = gr.μ true := rfl
 have hμf : g2.μ false = g.μ false := rfl
 have hle : g.Le g2 := ⟨Nat.le_refl _, Nat.le_add_right _ _, fun _ _ => rfl, fun j hj => by simp [g2, Gh.mutM, hj], fun f => by
  cases f
  ·exact .refl _
  ·intro b o hbo; exact r8 b o (by simpa [g0, Gh.lendM] using hbo)⟩
 have hσ2 : ∀ j, g2.σ (j + g.nr) = gr.σ j := fun j => by
  have : ¬ j + g.nr < g.nr := by omega
  simp [g2, Gh.mutM, this]
 have hgμ : gr.μ.Le g2.μ := fun f => by
  cases f
  ·rw [r11]; intro b o hh; cases hh
  ·exact .refl _
 have hnr := ht.nr
 have hv2 := rel_shM (g2 := g2) (n := g.nr) r0 hgμ hσ2 rfl _ _ r2
 have hc2 := rels_shM (g2 := g2) (n := g.nr) r0 hgμ hσ2 rfl _ _ r4
 have htI : ∀ b, tagNp (g.tag b) k γ = false → gr.tag b = .imm → g2.tag b = .imm := fun b h1 h2 => by
  simp only [g2, Gh.mutM, h1, Bool.false_eq_true, if_false, h2, mutT]
 have hfr : ∀ b, b < w.heap.size → tagNp (g.tag b) k γ = true → w'.heap[b]? = w.heap[b]? := fun b hb h1 => by
  have h2 : g0.μ false b = w.heap[b]? := by simp only [g0, Gh.lendM, Bool.false_eq_true, if_false, (ren_tagNp h1).1]
  have h3 : ∃ o, w.heap[b]? = some o := ⟨w.heap[b], by simp [hb]⟩
  obtain ⟨o, h3⟩ := h3
  rw [o7 b o (by rw [h2, h3]), h3]
 have hnpc : ∀ b, np b = false → b < w.heap.size → tagNp (g.tag b) k γ = false := fun b h1 h2 => by
  simp only [np, Bool.or_eq_false_iff, Bool.and_eq_false_iff, decide_eq_false_iff_not] at h1
  rcases h1.2 with h3 | h3
  ·exact absurd h2 h3
  ·exact h3
 have hnp0 : ∀ b, gr.tag b ≠ .imm → tagNp (g.tag b) k γ = false := fun b h1 => by
  by_cases hb : b < w.heap.size
  ·refine hnpc b ?_ hb
   cases hn : np b with
   | false => rfl
   | true => exact absurd (r6 b (.inr (.inl hn))) h1
  ·exact tagNp_imm (hm.fresh b (by omega))
 have hgetR : ∀ j x, (goneL γ st.rw ++ rw')[j]? = some x → (j < g.nr ∧ (x = .gone ∨ (st.rw[j]? = some x ∧ some j ∉ γ))) ∨ (g.nr ≤ j ∧ rw'[j - g.nr]? = some x) := fun j x hj => by
  rw [List.getElem?_append, goneL_len] at hj
  rw [hnr]
  split at hj
  ·exact .inl ⟨by assumption, goneL_get _ _ _ _ hj⟩
  ·exact .inr ⟨by omega, hj⟩
 refine ⟨v, he, g2, _, _, h sv cells' rw' hp, by rw [← hnr]; exact hv2, ⟨by simp [g2, Gh.mutM, setN_eq, ht.nb], by simp [g2, Gh.mutM, goneL_len, hnr, r1], ht.defers, ht.size, fun t => rel_mono hle _ _ (ht.tm t), fun j s e hj => ?_, ht.pin.mono hle⟩, ⟨o1, o2, o3, o4, fun q b hlt => ?_, fun b hlt => ?_, fun j bx hj => ?_, fun j e s els hj => ?_, fun f => ?_, fun b o hbo => ?_, fun b hb' => ?_, hm.hs.next rfl rfl rfl o5 (fun f b o hbo => ?_) (fun j s ys hj => ?_)⟩, fun hd => ⟨hle, by rw [hall]; exact Fr.all⟩⟩
 ·rcases hgetR j _ hj with ⟨hlt, hj | ⟨hj, _⟩⟩ | ⟨hge, hj⟩
  ·cases hj
  ·have := (ht.frz j s e hj).mono hle.μ
   rwa [hle.σ j hlt]
  ·obtain ⟨_, _, _, hh⟩ := rf _ _ hj; cases hh
 ·obtain ⟨q1, q2⟩ := hm.old q b hlt
  have q3 := hm.hs.lt q b hlt
  obtain ⟨o, q4⟩ : ∃ o, w.heap[b]? = some o := ⟨w.heap[b], by simp [q3]⟩
  have q5 : g0.μ false b = some o := by
   have : (g.ren [k] γ).tag b = .imm := by simp only [Gh.ren, q2]
   simp only [g0, Gh.lendM, Bool.false_eq_true, if_false, this, q4]
  exact ⟨by rw [o7 b o q5, ← q4]; exact q1, htI b (tagNp_imm q2) (r6 b (.inr (.inr ⟨o, q5⟩)))⟩
 ·refine htI b ?_ (r6 b (.inl hlt))
  cases hn : np b with
  | true => have := o6 b hn; omega
  | false =>
   by_cases hb : b < w.heap.size
   ·exact hnpc b hn hb
   ·exact tagNp_imm (hm.fresh b (by omega))
 ·rw [setN_eq, List.getElem?_set] at hj
  split at hj
  ·rename_i hkj
   subst hkj
   simp only [hkl, if_true, Option.some.injEq] at hj
   subst hj
   have hρ : g0.ρ 0 = g.ρ k := rfl
   rw [hρ] at r3 r5
   refine ⟨?_, cs2, r3, by rw [← hnr]; exact hc2⟩
   show g2.tag (g.ρ k) = _
   simp only [g2, Gh.mutM, m1, tagNp, idxN, if_true, Bool.false_eq_true, if_false, r5, mutT]
  ·rename_i hkj
   obtain ⟨h1, cs3, h2, h3⟩ := hm.box j bx hj
   have hp1 : tagNp (g.tag (g.ρ j)) k γ = true := by
    rw [h1]; simp [tagNp, idxN, hkj]
   refine ⟨?_, cs3, ?_, rels_mono hle _ _ h3⟩
   ·show g2.tag (g.ρ j) = _
    simp only [g2, Gh.mutM, hp1, if_true]; exact h1
   ·show w'.heap[g.ρ j]? = _
    rw [hfr _ (heap_lt h2) hp1, h2]
 ·rcases hgetR j _ hj with ⟨hlt, hj | ⟨hj, hn⟩⟩ | ⟨hge, hj⟩
  ·cases hj
  ·obtain ⟨h1, h2⟩ := hm.row _ _ _ _ hj
   have hl := h1.lt
   rw [hle.σ j hlt]
   have hp1 : ∀ b, ob (g.σ j) = some b → tagNp (g.tag b) k γ = true := fun b hb => by
    rw [h2 b hb]
    simp only [tagNp]
    cases hi : idxO γ j with
    | none => rfl
    | some i => exact absurd (List.mem_of_getElem? (idxO_some hi)) hn
   exact ⟨(h1.keep fun b hb => hfr b (hl b hb).2 (hp1 b hb)).mono hle.μ, fun b hb => by simp only [g2, Gh.mutM, hp1 b hb, if_true]; exact h2 b hb⟩
  ·obtain ⟨h1, h2⟩ := r7 _ _ _ _ hj
   have hσ : g2.σ j = gr.σ (j - g.nr) := by rw [← hσ2]; congr 1; omega
   rw [hσ]
   refine ⟨h1.mono hgμ, fun b hb => ?_⟩
   have h3 := h2 b hb
   have h4 := hnp0 b (by rw [h3]; exact fun e => by cases e)
   simp only [g2, Gh.mutM, h4, Bool.false_eq_true, if_false, h3, mutT, Nat.sub_add_cancel hge]
 ·cases f
  ·refine ⟨fun b o hbo => ?_, fun b o hbo => ?_⟩ <;> rw [hμf] at hbo <;> have h1 := (hm.imm false).2 b o hbo <;> have h2 : g0.μ false b = some o := hle0.μ false b o hbo
   ·exact o7 b o h2
   ·exact htI b (tagNp_imm h1) (r6 b (.inr (.inr ⟨o, h2⟩)))
  ·rw [hμt]
   refine ⟨r9, fun b o hbo => ?_⟩
   obtain ⟨h1, h2, h3⟩ := r10 b o hbo
   refine htI b ?_ h1
   by_cases hb : b < w.heap.size
   ·exact hnpc b h3 hb
   ·exact tagNp_imm (hm.fresh b (by omega))
 ·rw [hμt] at hbo
  obtain ⟨h1, h2, h3⟩ := r10 b o hbo
  refine ⟨h2, ?_⟩
  simp only [np, Bool.or_eq_false_iff] at h3
  exact h3.1.1
 ·have hn : np b = true := by simp [np, hb']
  exact ⟨htI b (tagNp_imm (hm.np b hb').1) (r6 b (.inr (.inl hn))), o6 b hn⟩
 ·cases f
  ·exact .inl hbo
  ·rw [hμt] at hbo
   obtain ⟨_, _, h3⟩ := r10 b o hbo
   simp only [np, Bool.or_eq_false_iff] at h3
   cases hlp : C.pin.ho.lp b with
   | false => exact .inr ⟨h3.1.2.1, rfl⟩
   | true =>
    cases hgt : g.μ true b with
    | none => simp [hlp, hgt] at h3
    | some o' =>
     have := r8 b o' (by simpa [g0, Gh.lendM] using hgt)
     rw [hbo] at this
     exact .inl this.symm
 ·rcases hgetR j _ hj with ⟨hlt, hj | ⟨hj, _⟩⟩ | ⟨hge, hj⟩
  ·cases hj
  ·exact ⟨j, hj⟩
  ·obtain ⟨_, _, _, hh⟩ := rf _ _ hj; cases hh
end

end Go.Vx
