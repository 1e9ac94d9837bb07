/-
 Contracts of functions that change a box of the caller's (a struct behind a pointer) and take the own rows that it names.
-/
import Derived.Test.YtgcmppghjfidfaaGreatDoorVLib
namespace Go.Vx
open Go Go.RowKit
set_option linter.unusedSimpArgs false
abbrev PostM := SV → List SV → List Rw → Prop
def EndM (ty : TypeId) (v : SV) (bx : List (Option Bx)) (rw : List Rw) (post : PostM) (_ : Lk post) : Prop :=
 ∃ γ sv cells rw', post sv cells rw' ∧ (γ.filterMap id).Nodup ∧ leV [0] γ v sv ∧ leB1 [0] γ rw (nth bx 0) ty cells ∧ leR rw rw' γ ∧ kpV sv ∧ kpVL cells ∧ kpR rw'
def endM2 (ty : TypeId) (l : Option (List SV)) (st : St) (post : PostM) (_ : Lk (st, post)) : Prop :=
 match l with
 | some l => EndM ty (normD st.rw (tupV l)) st.bx st.rw post ⟨⟩
 | none => False
def finM (T : Tab) (rs : List ResultVar) (ty : TypeId) (post : PostM) (e : Exit) (st : St) : Prop :=
 match e with
 | .normal => endM2 ty (ressS T st rs) st post ⟨⟩
 | .ret => endM2 ty (ressS T st rs) st post ⟨⟩
 | _ => False
def goneL : List (Option Nat) → List Rw → List Rw
 | [], rw => rw
 | some r :: l, rw => goneL l (setN rw r .gone)
 | none :: l, rw => goneL l rw
def hoM (w0 : World) (n : Nat) : Ho := ⟨⟨0, fun _ _ _ _ _ => False⟩, none, false, some (fun _ => false, w0), fun _ => false, n⟩
/-- What such a call leaves. -/
structure MutOk (w0 w w' : World) (kp : Hp) (np : Nat → Bool) (g : Gh) (ty : TypeId) (sv : SV) (cells : List SV) (rw' : List Rw) (v : Value) : Prop where
 os : w'.os = w0.os
 tape : w'.tape = w0.tape
 output : w'.output = w0.output
 size : w0.heap.size ≤ w'.heap.size
 size2 : w.heap.size ≤ w'.heap.size
 npl : ∀ b, np b = true → b < w'.heap.size
 lent : (g.μ false).In w'
 mem : ∃ gr : Gh, gr.nb = 0 ∧ gr.nr = rw'.length ∧ rel gr sv v ∧ (∃ cs, w'.heap[g.ρ 0]? = some (.cells cs ty (0, 0)) ∧ rels gr cells cs.toList) ∧ gr.tag (g.ρ 0) = .box 0 ∧
  (∀ b, (w'.heap.size ≤ b ∨ np b = true ∨ ∃ o, g.μ false b = some o) → gr.tag b = .imm) ∧
  (∀ (k : Nat) (x : Rw), rw'[k]? = some x → ∃ ety size els, x = Rw.own ety size els) ∧
  (∀ (k : Nat) (ety : TypeId) (size : Nat) (els : List (List D)), rw'[k]? = some (Rw.own ety size els) → RowOk gr.μ w0.heap.size w' (gr.σ k) ety size els ∧ ∀ b, ob (gr.σ k) = some b → gr.tag b = .row k) ∧
  (g.μ true).Le (gr.μ true) ∧ (gr.μ true).In w' ∧ (∀ b o, gr.μ true b = some o → gr.tag b = .imm ∧ (w0.heap.size ≤ b ∨ ∃ o', kp b = some o') ∧ np b = false) ∧ gr.μ false = fun _ => none

/-- The contract of a function whose first argument is a pointer to a box: what is in the box, rows that it names, the other arguments. -/
def CtrM (P : Program) (f : FuncId) (ty : TypeId) (cells : List SV) (rw : List Rw) (args : List SV) (post : PostM) : Prop :=
 Ent P f ∧ ∀ (w0 w : World) (np : Nat → Bool) (kp : Hp) (g : Gh), g.nb = 1 → g.nr = rw.length → (∀ N, Mem ⟨P, w0, N, kp, ⟨1, 0, g.ρ, g.σ, g.μ, np, hoM w0 w.heap.size⟩, false⟩ g ⟨[], [some ⟨ty, cells⟩], rw⟩ w) →
  ∀ vs, rels g (.box 0 0 :: args) vs → Calls P f vs.toArray w (fun e w' => ∃ v sv cells' rw', e = .returned v ∧ post sv cells' rw' ∧ MutOk w0 w w' kp np g ty sv cells' rw' v)

theorem leB1_inv {β : List Nat} {γ : List (Option Nat)} {rw : List Rw} {x : Option (Option Bx)} {ty : TypeId} {cells : List SV} (h : leB1 β γ rw x ty cells) : ∃ cs, x = some (some ⟨ty, cs⟩) ∧ leL β γ (cs.map (norm rw)) cells := by
 unfold leB1 at h
 split at h
 ·obtain ⟨rfl, h⟩ := h; exact ⟨_, rfl, h⟩
 ·exact h.elim

theorem endM_ok {P : Program} {w0 : World} {N : Nat} {kp : Hp} {g0 g : Gh} {np : Nat → Bool} {st : St} {a : Act} {w : World} {wi : World} (hm : Mod ⟨P, w0, N, kp, ⟨1, 0, g0.ρ, g0.σ, g0.μ, np, hoM w0 wi.heap.size⟩, false⟩ g st a w) {ty : TypeId} {v : SV} {u : Value} (hr : rel g v u) {post : PostM} {l : Lk post} (he : EndM ty v st.bx st.rw post l) :
  ∃ sv cells rw', post sv cells rw' ∧ MutOk w0 wi w kp np g0 ty sv cells rw' u := by
 obtain ⟨γ, sv, cells, rw', hp, hn, h1, h2, h3, h4, h5, h6⟩ := he
 have hγ := NodupO.of_filter hn
 have hrows := ren_rows (β := [0]) hm hγ h3
 have hρ : g.ρ 0 = g0.ρ 0 := hm.tm.pin.ρ 0 (by simp)
 have hμ : g0.μ.Le g.μ := hm.tm.pin.μ
 obtain ⟨cs', hk, h2⟩ := leB1_inv h2
 rw [nth_eq] at hk
 focus
  obtain ⟨m1, cs, m2, m3⟩ := hm.mem.box _ _ hk
  have htag : ∀ b, g.tag b = .imm → (g.ren [0] γ).kept.tag b = .imm := fun b hb => by simp only [Gh.kept, Gh.ren, hb]
  refine ⟨sv, cells, rw', hp, ⟨hm.mem.os, hm.mem.tape, hm.mem.output, hm.mem.size, hm.mem.hs.sz, fun b hb => (hm.mem.np b hb).2, fun b o hb => (hm.mem.imm false).1 b o (hμ false b o hb), (g.ren [0] γ).kept, rfl, (leR_len h3).symm, rel_keep _ _ h4 (rel_ren _ _ _ hr h1), ⟨cs, by rw [← hρ]; exact m2, rels_keep _ _ h5 (rels_ren _ _ _ (rels_norm hm.tm m3) h2)⟩, ?_, ?_, fun k x hk => ?_, fun k e s els hk => ?_, fun b o hb => ?_, hm.mem.imm true |>.1, fun b o hb => ⟨?_, (hm.mem.keep b o hb)⟩, rfl⟩⟩
  ·rw [← hρ]; simp only [Gh.kept, Gh.ren, m1, idxN, if_true]
  ·rintro b (hb | hb | ⟨o, hb⟩)
   ·exact htag b (hm.mem.fresh b hb)
   ·exact htag b (hm.mem.np b hb).1
   ·exact htag b ((hm.mem.imm false).2 b o (hμ false b o hb))
  ·obtain ⟨e, s, els, h, _⟩ := kpR_get h6 k x hk; exact ⟨e, s, els, h⟩
  ·obtain ⟨hrow, k4⟩ := hrows k e s els hk
   obtain ⟨_, _, _, h, hkp⟩ := kpR_get h6 k _ hk
   cases h
   rcases hrow with ⟨hs0, vss, k1, k2, k3⟩ | hrow
   ·exact ⟨.inl ⟨hs0, vss, k1, k2, RdLL_keep _ _ hkp k3⟩, k4⟩
   ·exact ⟨.inr hrow, k4⟩
  ·have := hμ true b o hb
   simpa [Gh.kept, Gh.ren, keepMu] using this
  ·exact htag b ((hm.mem.imm true).2 b o hb)

theorem CtrM.of {P : Program} {T : Tab} (hT : TabOk P T) {f : FuncId} {fn : Func} {body : Code} {rs : List ResultVar} {ty : TypeId} {cells : List SV} {rw : List Rw} {args : List SV} {post : PostM} (hf : P.funcs[f]? = some fn) (hb : fn.body = some body) (hname : (fn.name == "runtime.NumGoroutine") = false) (hrs : fn.results.toList = rs)
  (hd : dstOk fn.ntmps body = true) (hargs : args.length + 1 ≤ fn.ntmps) (hown : ∀ (k : Nat) s els, rw[k]? = some (Rw.frz s els) → False) (h : ∀ w0 kp ρ σ μ np n, runC T ⟨P, w0, fn.ntmps, kp, ⟨1, 0, ρ, σ, μ, np, hoM w0 n⟩, false⟩ body ⟨argI 0 (.box 0 0 :: args), [some ⟨ty, cells⟩], rw⟩ (finM T rs ty post) ⟨⟩) : CtrM P f ty cells rw args post := by
 refine ⟨⟨fn, hf, hname, by simp [hb]⟩, fun w0 w np kp g hnb hnr hm vs hr => ?_⟩
 refine calls_of_wp hf hb ?_
 have hm := hm fn.ntmps
 let C : Cx := ⟨P, w0, fn.ntmps, kp, ⟨1, 0, g.ρ, g.σ, g.μ, np, hoM w0 w.heap.size⟩, false⟩
 have hT' : TabOk C.P T := hT
 have hvl := rels_length hr
 simp only [List.length_cons] at hvl
 have hm : Mod C g ⟨argI 0 (.box 0 0 :: args), [some ⟨ty, cells⟩], rw⟩ { tmps := vs.toArray ++ Array.replicate (fn.ntmps - vs.toArray.size) undef, defers := [] } w := by
  refine ⟨⟨hnb, hnr, .nil _ _, by simp [C]; omega, fun t => ?_, fun k s e hk => (hown k s e hk).elim, ⟨by rw [hnb]; exact Nat.le_refl _, Nat.zero_le _, fun _ _ => rfl, fun _ _ => rfl, .refl _⟩⟩, hm.os, hm.tape, hm.output, hm.size, hm.old, hm.fresh, hm.box, hm.row, hm.imm, hm.keep, hm.np, hm.hs.same (Nat.le_refl _) rfl⟩
  refine argI_look (.box 0 0 :: args) vs 0 hr t _ fun _ hlt => ?_
  have hlt : t < vs.length := by omega
  simp only [Nat.sub_zero]
  rw [List.getElem?_eq_getElem hlt]
  simp [Array.getD_eq_getD_getElem?, Array.getElem?_append, hlt]
 refine wp_mono (wpIn_wide.1 (code_sound hT' body _ _ hd (h w0 kp g.ρ g.σ g.μ np w.heap.size) _ _ w hm)) fun e a' w' ⟨g', st', h1, h2⟩ => ?_
 have key : ∀ {l}, endM2 ty (ressS T st' rs) st' post l → a'.defers = [] ∧ ∃ v, (results fn a'.tmps).run P w' = .ok v w' ∧ ∃ v' sv cells' rw', Ending.returned v = .returned v' ∧ post sv cells' rw' ∧ MutOk w0 w w' kp np g ty sv cells' rw' v' := by
  intro l he
  refine ⟨by obtain ⟨ds, h3, _, _, h4⟩ := h2.tm.defers; rw [h3, h4 rfl]; rfl, ?_⟩
  unfold endM2 at he
  split at he
  ·rename_i l hl
   obtain ⟨us, k1, k2⟩ := ressS_ok hT' h2.tm h2.mem rs l hl
   rw [← hrs] at k2
   have hres := results_run k2
   have hrel : rel g' (tupV l) (tupU us) := by
    match l, us, k1 with
    | [], [], _ => exact ⟨_, rfl, trivial⟩
    | [x], [u], k => exact k.1
    | x :: y :: l, u :: v :: us, k => exact ⟨_, rfl, by simpa using k⟩
   obtain ⟨sv, cells', rw', hp, hok⟩ := endM_ok h2 (rel_normD h2.tm _ _ hrel) he
   exact ⟨tupU us, hres, tupU us, sv, cells', rw', rfl, hp, hok⟩
  ·exact he.elim
 cases e with
 | normal => obtain ⟨k1, v, k2, k3⟩ := key (l := ⟨⟩) h1; exact ⟨k1, v, k2, k3⟩
 | ret => obtain ⟨k1, v, k2, k3⟩ := key (l := ⟨⟩) h1; exact ⟨k1, v, k2, k3⟩
 | exit _ => exact h1.elim
 | goto _ => exact h1.elim
 | panic _ => exact h1.elim
 | outgrown => exact h1.elim

theorem EndM.r {ty : TypeId} {v : SV} {bx : List (Option Bx)} {rw : List Rw} {post : PostM} {l : Lk post} (γ : List (Option Nat)) (sv : SV) (cells : List SV) (rw' : List Rw) (hp : post sv cells rw') (hγ : (γ.filterMap id).Nodup) (h1 : leV [0] γ v sv) (h2 : leB1 [0] γ rw (nth bx 0) ty cells) (h3 : leR rw rw' γ) (k1 : kpV sv) (k2 : kpVL cells) (k3 : kpR rw') : EndM ty v bx rw post l :=
 ⟨γ, sv, cells, rw', hp, hγ, h1, h2, h3, k1, k2, k3⟩

/-! ### a call by such a contract -/
def tagNp (t : Tag) (k : Nat) (γ : List (Option Nat)) : Bool :=
 match t with
 | .imm => false
 | .box j => match idxN [k] j with
  | some _ => false
  | none => true
 | .row j => match idxO γ j with
  | some _ => false
  | none => true
def mutT (n k : Nat) : Tag → Tag
 | .imm => .imm
 | .box 0 => .box k
 | .box _ => .imm
 | .row j => .row (j + n)
def Gh.lendM (g : Gh) (w : World) (k : Nat) (γ : List (Option Nat)) : Gh :=
 { g.ren [k] γ with fo := fun _ => false, wy := w, mp := fun _ => false, μ := fun f => if f then g.μ true else fun b => match (g.ren [k] γ).tag b with
  | .imm => w.heap[b]?
  | _ => none }
def Gh.mutM (g gr : Gh) (k : Nat) (γ : List (Option Nat)) : Gh where
 nb := g.nb
 nr := g.nr + gr.nr
 ρ := g.ρ
 σ := fun j => if j < g.nr then g.σ j else gr.σ (j - g.nr)
 tag := fun b => if tagNp (g.tag b) k γ = true then g.tag b else mutT g.nr k (gr.tag b)
 μ := fun f => if f then gr.μ true else g.μ false
 fo := g.fo
 wy := g.wy
 mp := g.mp

mutual
theorem rel_shM {gr g2 : Gh} {n : Nat} (h0 : gr.nb = 0) (hμ : gr.μ.Le g2.μ) (hσ : ∀ j, g2.σ (j + n) = gr.σ j) (hnr : g2.nr = n + gr.nr) : ∀ (v : SV) (u : Value), rel gr v u → rel g2 (shV n v) u
 | .any, _, _ => by simp [shV, rel]
 | .v _, _, h => by simp only [shV]; exact h
 | .sl .., _, h => by simp only [shV]; exact Rd.mono hμ _ _ h
 | .pt .., _, h => by simp only [shV]; exact Rd.mono hμ _ _ h
 | .box k _, _, h => by have := h.2; omega
 | .row k, u, h => by
  simp only [shV]
  exact ⟨by rw [h.1, hσ], h.2.1, by have := h.2.2; omega⟩
 | .relt k i s o, u, ⟨b, h1, h2, h3⟩ => by
  simp only [shV]
  exact ⟨b, by rw [hσ]; exact h1, h2, by omega⟩
 | .agg l, u, ⟨cs, h1, h2⟩ => by simp only [shV]; exact ⟨cs, h1, rels_shM h0 hμ hσ hnr l _ h2⟩
 | .tup l, u, ⟨cs, h1, h2⟩ => by simp only [shV]; exact ⟨cs, h1, rels_shM h0 hμ hσ hnr l _ h2⟩
 | .clo _ l, u, ⟨cs, h1, h2⟩ => by simp only [shV]; exact ⟨cs, h1, rels_shM h0 hμ hσ hnr l _ h2⟩
 | .arm, _, _ => by simp [shV, rel]
 | .ali k v, u, h => by
  simp only [shV]
  exact ⟨by rw [h.1, hσ], h.2.1, by have := h.2.2; omega⟩
 | .bxa k b, _, h => by have := h.2; omega
 | .glo .., _, h => by simp only [shV]; exact RdC.mono hμ _ _ _ _ h
 | .cap .., _, h => by simp only [shV]; exact ⟨Rd.mono hμ _ _ h.1, h.2⟩
theorem rels_shM {gr g2 : Gh} {n : Nat} (h0 : gr.nb = 0) (hμ : gr.μ.Le g2.μ) (hσ : ∀ j, g2.σ (j + n) = gr.σ j) (hnr : g2.nr = n + gr.nr) : ∀ (l : List SV) (us : List Value), rels gr l us → rels g2 (shL n l) us
 | [], [], _ => by simp [shL, rels]
 | x :: l, u :: us, h => by simp only [shL]; exact ⟨rel_shM h0 hμ hσ hnr x u h.1, rels_shM h0 hμ hσ hnr l us h.2⟩
 | [], _ :: _, h => h.elim
 | _ :: _, [], h => h.elim
end

section
variable {C : Cx} {st : St} {K : SV → St → Prop}
end

end Go.Vx
