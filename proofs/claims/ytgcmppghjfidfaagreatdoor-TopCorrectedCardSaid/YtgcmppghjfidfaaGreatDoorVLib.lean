/-
 For walks: calls in place, comparison of states by computing, and rules in their handy forms.
-/
import Derived.Test.YtgcmppghjfidfaaGreatDoorVTab
namespace Go.Vx
set_option linter.unusedSimpArgs false
open Go Go.RowKit
theorem Vc.go {p Q : Prop} {l : Lk Q} (h : p) (h1 : p → Q) : Vc p Q l := ⟨h, h1 h⟩
theorem BrW.of {b : Bool} {A B : Prop} {l : Lk (A, B)} (h1 : b = true → A) (h2 : b = false → B) : BrW b A B l := ⟨h1, h2⟩
theorem BrW.tt {b : Bool} {A B : Prop} {l : Lk (A, B)} (h : b = true) (h1 : A) : BrW b A B l := ⟨fun _ => h1, fun h2 => by (rw [h] at h2; cases h2)⟩
theorem BrW.ff {b : Bool} {A B : Prop} {l : Lk (A, B)} (h : b = false) (h1 : B) : BrW b A B l := ⟨fun h2 => by (rw [h] at h2; cases h2), fun _ => h1⟩
theorem IxW.of {els : List (List D)} {j : Int} {k : List D → Prop} {lk : Lk k} (e : List D) (h0 : 0 ≤ j) (h : els[j.toNat]? = some e) (hk : k e) : IxW els j k lk := ⟨h0, e, h, hk⟩
/-- an element of data that was made of a list. -/
theorem IxW.map {α : Type} {f : α → List D} {l : List α} {j : Int} {k : List D → Prop} {lk : Lk k} (x : α) (h0 : 0 ≤ j) (h : l[j.toNat]? = some x) (hk : k (f x)) : IxW (l.map f) j k lk := ⟨h0, f x, by simp [h], hk⟩
theorem IxW.nat {α : Type} {f : α → List D} {l : List α} {j : Nat} {k : List D → Prop} {lk : Lk k} (h : j < l.length) (hk : k (f l[j])) : IxW (l.map f) (j : Int) k lk := ⟨by omega, f l[j], by simp [h], hk⟩
theorem EndW.fn {v : SV} {rw : List Rw} {d : SV} (h : leV [] [] v d) (hk : kpV d) : EndW v rw (fun r => r = ⟨d, []⟩) ⟨⟩ := ⟨[], _, rfl, by simp, h, trivial, hk, trivial⟩
theorem EndW.p {v : SV} {rw : List Rw} {post : Ret → Prop} (d : SV) (hp : post ⟨d, []⟩) (h : leV [] [] v d) (hk : kpV d) : EndW v rw post ⟨⟩ := ⟨[], _, hp, by simp, h, trivial, hk, trivial⟩
theorem EndW.r {v : SV} {rw : List Rw} {d : SV} {rw' : List Rw} (γ : List (Option Nat)) (hγ : (γ.filterMap id).Nodup) (h : leV [] γ v d) (hr : leR rw rw' γ) (hk : kpV d) (hk' : kpR rw') : EndW v rw (fun r => r = ⟨d, rw'⟩) ⟨⟩ := ⟨γ, _, rfl, hγ, h, hr, hk, hk'⟩
theorem kpLL_map {α : Type} (f : α → List D) (l : List α) : kpLL (l.map f) = ∀ x ∈ l, kpL (f x) := by
 induction l with
 | nil => simp [kpLL]
 | cons x l ih => simp [kpLL, ih]
theorem kpLL_all {l : List (List D)} : kpLL l = ∀ e ∈ l, kpL e := by
 induction l with
 | nil => simp [kpLL]
 | cons x l ih => simp [kpLL, ih]
theorem nz (n : Nat) : (n + 1 ≠ 0) = True := by simp

/-! ### a call carried out in place -/
def inl2 (l : Option (List SV)) (tm : List (Nat × SV)) (st' : St) (K : SV → St → Prop) (_ : Lk (tm, st', K)) : Prop :=
 match l with
 | some l => K (normD st'.rw (tupV l)) { st' with tm := tm }
 | none => False
def inlK (T : Tab) (rs : List ResultVar) (tm : List (Nat × SV)) (K : SV → St → Prop) (e : Exit) (st' : St) : Prop :=
 match e with
 | .normal => inl2 (ressS T st' rs) tm st' K ⟨⟩
 | .ret => inl2 (ressS T st' rs) tm st' K ⟨⟩
 | _ => False
theorem CallI.inl {P : Program} {T : Tab} (hT : TabOk P T) {f : FuncId} {fn : Func} {body : Code} {rs : List ResultVar} {w0 : World} {N : Nat} {kp : Hp} {pin : Pin} {st : St} {K : SV → St → Prop} {args : List SV} (hf : P.funcs[f]? = some fn) (hb : fn.body = some body) (hname : (fn.name == "runtime.NumGoroutine") = false) (hrs : fn.results.toList = rs)
  (hd : dstOk fn.ntmps body = true) (hargs : args.length ≤ fn.ntmps) (h : ∀ ρ σ μ fr lp, runC T ⟨P, w0, fn.ntmps, kp, ⟨st.bx.length, st.rw.length, ρ, σ, μ, pin.np, pin.ho.out fr lp⟩, false⟩ body ⟨argI 0 args, st.bx, st.rw⟩ (inlK T rs st.tm K) ⟨⟩) : CallI ⟨P, w0, N, kp, pin, false⟩ f args st K ⟨⟩ := by
 intro g a w ht hm vs hr
 refine ⟨⟨fn, hf, hname, by simp [hb]⟩, ?_⟩
 refine calls_of_wp hf hb ?_
 obtain ⟨ds, d1, d2, d3, d4⟩ := ht.defers
 let C' : Cx := ⟨P, w0, fn.ntmps, kp, ⟨st.bx.length, st.rw.length, g.ρ, g.σ, g.μ, pin.np, pin.ho.out (fun b => frS ⟨P, w0, N, kp, pin, false⟩ g.fo true b || decide (b ∈ ds), w) (fun b => decide (b ∈ ds) || pin.ho.lp b)⟩, false⟩
 have d5 : ∀ D ∈ ds, g.tag D = .imm ∧ w.heap[D]? = some (.deferred (some [])) := fun D hD => ⟨(hm.imm false).2 D _ (d2 D hD).1, (hm.imm false).1 D _ (d2 D hD).1⟩
 have d6 : ∀ b, frS C' g.fo true b = true ↔ (frS ⟨P, w0, N, kp, pin, false⟩ g.fo true b = true ∨ b ∈ ds) := fun b => by simp [C', Ho.out, frS]
 have hT' : TabOk C'.P T := hT
 have hvl := rels_length hr
 have hm' : Mod C' g ⟨argI 0 args, st.bx, st.rw⟩ { tmps := vs.toArray ++ Array.replicate (fn.ntmps - vs.toArray.size) undef, defers := [] } w := by
  refine ⟨⟨ht.nb, ht.nr, .nil _ _, by simp [C']; omega, fun t => ?_, ht.frz, by rw [ht.nb]; exact Nat.le_refl _, by rw [ht.nr]; exact Nat.le_refl _, fun _ _ => rfl, fun _ _ => rfl, .refl _⟩, hm.os, hm.tape, hm.output, hm.size, fun q b hb => ?_, hm.fresh, hm.box, hm.row, hm.imm, hm.keep, hm.np, ⟨fun q b hb => ?_, hm.hs.mp, fun b hb => ?_, fun b hb => ?_, hm.hs.jj, fun l hl => (by cases hl), hm.hs.sz, hm.hs.wy⟩⟩
  ·refine argI_look args vs 0 hr t _ fun _ hlt => ?_
   have hlt : t < vs.length := by omega
   simp only [Nat.sub_zero]
   rw [List.getElem?_eq_getElem hlt]
   simp [Array.getD_eq_getD_getElem?, Array.getElem?_append, hlt]
  ·cases q
   ·exact hm.old false b hb
   ·refine ⟨rfl, ?_⟩
    rcases (d6 b).1 hb with hb | hb
    ·exact (hm.old true b hb).2
    ·exact (d5 b hb).1
  ·cases q
   ·exact hm.hs.lt false b hb
   ·rcases (d6 b).1 hb with hb | hb
    ·exact hm.hs.lt true b hb
    ·exact heap_lt (d5 b hb).2
  ·rcases (d6 b).1 hb with hb | hb
   ·exact hm.hs.nf b hb
   ·cases hmp : g.mp b with
    | false => rfl
    | true =>
     have := (hm.hs.mp b hmp).1
     rw [(d2 b hb).2.2] at this; cases this
  ·have hb' : b ∈ ds ∨ pin.ho.lp b = true := by simpa [C', Ho.out] using hb
   rcases hb' with hb' | hb'
   ·refine ⟨(d6 b).2 (.inr hb'), (d2 b hb').2.2, fun f o ho => ?_⟩
    have := (hm.imm f).1 b o ho
    rw [(d5 b hb').2] at this; cases this; rfl
   ·obtain ⟨p1, p2, p3⟩ := hm.hs.lp b hb'
    exact ⟨(d6 b).2 (.inl p1), p2, p3⟩
 refine wp_mono (wpIn_wide.1 (code_sound hT' body _ _ hd (h g.ρ g.σ g.μ _ _) g _ w hm')) fun e a' w' ⟨g', st', h1, h2⟩ => ?_
 have hle : g.Le g' := ⟨by rw [ht.nb]; exact h2.tm.pin.nb, by rw [ht.nr]; exact h2.tm.pin.nr, fun k hk => h2.tm.pin.ρ k (by rw [ht.nb] at hk; exact hk), fun k hk => h2.tm.pin.σ k (by rw [ht.nr] at hk; exact hk), h2.tm.pin.μ⟩
 have key : ∀ {l}, inl2 (ressS T st' rs) st.tm st' K l → a'.defers = [] ∧ ∃ v, (results fn a'.tmps).run P w' = .ok v w' ∧ ∃ v', Ending.returned v = .returned v' ∧ ∃ g' st' sv, K sv st' ∧ rel g' sv v' ∧ TmOk ⟨P, w0, N, kp, pin, false⟩ g' st' a ∧ Mem ⟨P, w0, N, kp, pin, false⟩ g' st' w' ∧ (false = true → g.Le g' ∧ Fr g (htC args) w w') := by
  intro l he
  refine ⟨by obtain ⟨ds, h3, _, _, h4⟩ := h2.tm.defers; rw [h3, h4 rfl]; rfl, ?_⟩
  unfold inl2 at he
  split at he
  ·rename_i l hl
   obtain ⟨us, k1, k2⟩ := ressS_ok hT' h2.tm h2.mem rs l hl
   rw [← hrs] at k2
   have hres := results_run k2
   have hrel : rel g' (tupV l) (tupU us) := by
    match l, us, k1 with
    | [], [], _ => exact ⟨_, rfl, trivial⟩
    | [x], [u], k => exact k.1
    | x :: y :: l, u :: v :: us, k => exact ⟨_, rfl, by simpa using k⟩
   refine ⟨tupU us, hres, tupU us, rfl, g', _, _, he, rel_normD h2.tm _ _ hrel, ⟨h2.tm.nb, h2.tm.nr, ⟨ds, d1, fun D hD => ⟨hle.μ false _ _ (d2 D hD).1, (d2 D hD).2.1, (h2.mem.hs.lp D (by simp [C', Ho.out, hD])).2.1⟩, d3, d4⟩, ht.size, fun t => rel_mono hle _ _ (ht.tm t), h2.tm.frz, ht.pin.mono hle⟩, ⟨h2.mem.os, h2.mem.tape, h2.mem.output, h2.mem.size, fun q b hb => (by
    cases q
    ·exact h2.mem.old false b hb
    ·obtain ⟨q1, q2⟩ := h2.mem.old true b ((d6 b).2 (.inl hb))
     exact ⟨q1.trans (hm.old true b hb).1, q2⟩), h2.mem.fresh, h2.mem.box, h2.mem.row, h2.mem.imm, h2.mem.keep, h2.mem.np, ⟨fun q b hb => (by
    cases q
    ·exact h2.mem.hs.lt false b hb
    ·exact h2.mem.hs.lt true b ((d6 b).2 (.inl hb))), h2.mem.hs.mp, fun b hb => h2.mem.hs.nf b ((d6 b).2 (.inl hb)), fun b hb => ⟨(hm.hs.lp b hb).1, (h2.mem.hs.lp b (by have hb' : pin.ho.lp b = true := hb; simp [C', Ho.out, hb'])).2⟩, h2.mem.hs.jj, hm.hs.ro, h2.mem.hs.sz, h2.mem.hs.wy⟩⟩, by simp⟩
  ·exact he.elim
 cases e with
 | normal => exact key (l := ⟨⟩) h1
 | ret => exact key (l := ⟨⟩) h1
 | exit _ => exact h1.elim
 | goto _ => exact h1.elim
 | panic _ => exact h1.elim
 | outgrown => exact h1.elim

/-! ### states by computing: what lives on at a loop's head -/
def pickT (tm : List (Nat × SV)) : List Nat → List (Nat × SV)
 | [] => []
 | t :: l => (t, look tm t) :: pickT tm l
def memN (k : Nat) : List Nat → Bool
 | [] => false
 | x :: l => if x = k then true else memN k l
def addN (k : Nat) (l : List Nat) : List Nat := if memN k l = true then l else l ++ [k]
def dedN : List Nat → List Nat → List Nat
 | [], acc => acc
 | k :: l, acc => dedN l (addN k acc)
def bxVals : List (Option Bx) → List SV
 | [] => []
 | some b :: l => b.cells ++ bxVals l
 | none :: l => bxVals l
def valsT : List (Nat × SV) → List SV
 | [] => []
 | (_, x) :: l => x :: valsT l
def idxK : List Nat → Nat → Nat
 | [], _ => 0
 | x :: l, k => if x = k then 0 else idxK l k + 1
mutual
def renV (γ : List Nat) : SV → SV
 | .row k => .row (idxK γ k)
 | .agg l => .agg (renL γ l)
 | .tup l => .tup (renL γ l)
 | .clo f l => .clo f (renL γ l)
 | .ali k u => .ali (idxK γ k) u
 | .relt .. => .any
 | x => x
def renL (γ : List Nat) : List SV → List SV
 | [] => []
 | x :: l => renV γ x :: renL γ l
end
def renT (γ : List Nat) (rw : List Rw) : List (Nat × SV) → List (Nat × SV)
 | [] => []
 | (t, x) :: l => (t, renV γ (norm rw x)) :: renT γ rw l
def renC (γ : List Nat) (rw : List Rw) : List SV → List SV
 | [] => []
 | x :: l => renV γ (norm rw x) :: renC γ rw l
def renB (γ : List Nat) (rw : List Rw) : List (Option Bx) → List (Option Bx)
 | [] => []
 | some b :: l => some ⟨b.ty, renC γ rw b.cells⟩ :: renB γ rw l
 | none :: l => none :: renB γ rw l
def rwGet : Option Rw → Rw
 | some x => x
 | none => .gone
def pickR (rw : List Rw) : List Nat → List Rw
 | [] => []
 | k :: l => rwGet (nth rw k) :: pickR rw l
/-- the ghost row, always the first one. -/
def ghI : List Rw → List Nat
 | .gh _ _ :: _ => [0]
 | _ => []
def gamG : List Rw → List (Option Nat) → List (Option Nat)
 | .gh _ _ :: _, _ :: l => some 0 :: l
 | _, l => l
/-- the rows that live on. -/
def gamK (keep : List Nat) (st : St) : List Nat := dedN (ghI st.rw ++ rowsIn st.rw (valsT (pickT st.tm keep) ++ bxVals st.bx)) []
def compK (γ keep : List Nat) (st : St) : St := ⟨renT γ st.rw (pickT st.tm keep), renB γ st.rw st.bx, pickR st.rw γ⟩
def compS (keep : List Nat) (st : St) : St := compK (gamK keep st) keep st
def rngN : Nat → List Nat → List Nat
 | 0, l => l
 | n + 1, l => rngN n (n :: l)
/-- which of its values the head of a loop names anew. -/
def ovT (u : List (Nat × SV)) : List (Nat × SV) → List (Nat × SV)
 | l => u ++ l
def ovR : List (Nat × List (List D)) → List Rw → List Rw
 | [], rw => rw
 | (k, els) :: l, rw => ovR l (ov1 (nth rw k) k els rw)
 where ov1 (x : Option Rw) (k : Nat) (els : List (List D)) (rw : List Rw) : List Rw :=
 match x with
 | some (.own e s _) => setN rw k (.own e s els)
 | _ => rw
def ovB : List (Nat × List SV) → List (Option Bx) → List (Option Bx)
 | [], bx => bx
 | (k, cs) :: l, bx => ovB l (ov1 (nth bx k) k cs bx)
 where ov1 (x : Option (Option Bx)) (k : Nat) (cs : List SV) (bx : List (Option Bx)) : List (Option Bx) :=
 match x with
 | some (some b) => setN bx k (some ⟨b.ty, cs⟩)
 | _ => bx
def hasT (t : Nat) : List (Nat × SV) → Bool
 | [] => false
 | (t', _) :: l => if t' = t then true else hasT t l
def delT (u : List (Nat × SV)) : List (Nat × SV) → List (Nat × SV)
 | [] => []
 | (t, x) :: l => if hasT t u = true then delT u l else (t, x) :: delT u l
def upS (u : List (Nat × SV)) (b : List (Nat × List SV)) (r : List (Nat × List (List D))) (a : List Rw) (st : St) : St := ⟨u ++ delT u st.tm, ovB b st.bx, ovR r st.rw ++ a⟩

/-! which row, which box of a state is which of another one: by what stands at the same places -/
def pairT (tm : List (Nat × SV)) (rw : List Rw) : List (Nat × SV) → List (SV × SV)
 | [] => []
 | (t, x) :: l => (x, norm rw (look tm t)) :: pairT tm rw l
def pairC (rw : List Rw) : List SV → List SV → List (SV × SV)
 | x :: l, y :: l' => (x, norm rw y) :: pairC rw l l'
 | _, _ => []
def pairB (rw : List Rw) (bx : List (Option Bx)) : List (Option Bx) → List Nat → List (SV × SV)
 | some b :: l, k :: ks => pairB1 rw (nth bx k) b.cells ++ pairB rw bx l ks
 | _ :: l, _ :: ks => pairB rw bx l ks
 | _, _ => []
 where pairB1 (rw : List Rw) (x : Option (Option Bx)) (cs : List SV) : List (SV × SV) :=
 match x with
 | some (some b) => pairC rw cs b.cells
 | _ => []
def isB : SV → Option Nat
 | .box k _ => some k
 | .bxa k _ => some k
 | _ => none
def isR : SV → Option Nat
 | .row k => some k
 | .ali k _ => some k
 | _ => none
def eqO (k : Nat) : Option Nat → Bool
 | some j => j == k
 | none => false
def fndB (k : Nat) : List (SV × SV) → Nat
 | [] => k
 | (x, y) :: l => fb1 (eqO k (isB x)) (isB y) (fndB k l)
 where fb1 (b : Bool) (y : Option Nat) (r : Nat) : Nat :=
 match b, y with
 | true, some j => j
 | _, _ => r
def fndR (k : Nat) : List (SV × SV) → Option Nat
 | [] => none
 | (x, y) :: l => fr1 (eqO k (isR x)) y (fndR k l)
 where fr1 (b : Bool) (y : SV) (r : Option Nat) : Option Nat :=
 match b with
 | true => isR y
 | false => r
def betaK (n : Nat) (ps : List (SV × SV)) : List Nat → List Nat
 | [] => []
 | k :: l => fndB k ps :: betaK n ps l
def gamR (ps : List (SV × SV)) : List Nat → List (Option Nat)
 | [] => []
 | k :: l => fndR k ps :: gamR ps l
def betaOf (st st' : St) : List Nat := betaK 0 (pairT st.tm st.rw st'.tm) (rngN (lenN st'.bx) [])
def gamOf (β : List Nat) (st st' : St) : List (Option Nat) := gamG st'.rw (gamR (pairT st.tm st.rw st'.tm ++ pairB st.rw st.bx st'.bx β) (rngN (lenN st'.rw) []))
def pinB (β : List Nat) : List Nat → Prop
 | [] => True
 | k :: l => nth β k = some k ∧ pinB β l
def pinG (γ : List (Option Nat)) : List Nat → Prop
 | [] => True
 | k :: l => nth γ k = some (some k) ∧ pinG γ l
theorem pinB_get {β : List Nat} : ∀ {l : List Nat}, pinB β l → ∀ k ∈ l, β[k]? = some k
 | _ :: _, h, k, hk => (List.mem_cons.1 hk).elim (fun e => by rw [e, ← nth_eq]; exact h.1) (pinB_get h.2 k)
theorem pinG_get {γ : List (Option Nat)} : ∀ {l : List Nat}, pinG γ l → ∀ k ∈ l, γ[k]? = some (some k)
 | _ :: _, h, k, hk => (List.mem_cons.1 hk).elim (fun e => by rw [e, ← nth_eq]; exact h.1) (pinG_get h.2 k)
theorem rngN_mem : ∀ (n : Nat) (l : List Nat) (k : Nat), k < n ∨ k ∈ l → k ∈ rngN n l
 | 0, _, _, h => h.elim (fun h => absurd h (Nat.not_lt_zero _)) id
 | n + 1, l, k, h => rngN_mem n (n :: l) k (by
   rcases h with h | h
   ·by_cases e : k = n
    ·exact .inr (by simp [e])
    ·exact .inl (by omega)
   ·exact .inr (by simp [h]))
def leA2 (C : Cx) (β : List Nat) (γ : List (Option Nat)) (st st' : St) : Prop := β.Nodup ∧ (γ.filterMap id).Nodup ∧ leSt β γ st st' ∧ pinB β (rngN C.pin.nb []) ∧ pinG γ (rngN C.pin.nr [])
def leA1 (C : Cx) (β : List Nat) (st st' : St) : Prop := leA2 C β (gamOf β st st') st st'
def leA (C : Cx) (st st' : St) : Prop := leA1 C (betaOf st st') st st'
theorem StLe.auto {C : Cx} {st st' : St} (h : leA C st st') : StLe C st st' := by
 obtain ⟨h1, h2, h3, h4, h5⟩ := h
 exact StLe.of _ _ h1 h2 h3 (List.all_eq_true.2 fun k hk => by rw [pinB_get h4 k (rngN_mem _ _ _ (.inl (List.mem_range.1 hk)))]; simp) (List.all_eq_true.2 fun k hk => by rw [pinG_get h5 k (rngN_mem _ _ _ (.inl (List.mem_range.1 hk)))]; simp)
theorem LoopW.le {C : Cx} {c : Code} {st st' : St} {K : Exit → St → Prop} (h : StLe C st st') (h1 : LoopW C c st' K ⟨⟩) : LoopW C c st K ⟨⟩ := fun hd g a w hm => by
 obtain ⟨g', hm'⟩ := h g a w hm
 exact h1 hd g' a w hm'
theorem LoopW.comp (keep : List Nat) {C : Cx} {c : Code} {st : St} {K : Exit → St → Prop} (h : leA C st (compS keep st)) (h1 : LoopW C c (compS keep st) K ⟨⟩) : LoopW C c st K ⟨⟩ := LoopW.le (StLe.auto h) h1
/-- A loop by an invariant: what the head names anew. -/
theorem LoopW.up {P : Program} {T : Tab} {w0 : World} {N : Nat} {kp : Hp} {pin : Pin} {dr : Bool} {α : Type} (hT : TabOk P T) (U : α → List (Nat × SV)) (B : α → List (Nat × List SV)) (R : α → List (Nat × List (List D))) (A : α → List Rw) (J : α → Prop) (m : α → Nat) {c : Code} {st : St} {K : Exit → St → Prop} (x0 : α)
  (h0 : leA ⟨P, w0, N, kp, pin, dr⟩ st (upS (U x0) (B x0) (R x0) (A x0) st)) (hJ : J x0)
  (h : ∀ x, J x → runC T ⟨P, w0, N, kp, pin, dr⟩ c (upS (U x) (B x) (R x) (A x) st) (loopK ⟨P, w0, N, kp, pin, dr⟩ (fun x => upS (U x) (B x) (R x) (A x) st) J m x K) ⟨⟩) : LoopW ⟨P, w0, N, kp, pin, dr⟩ c st K ⟨⟩ :=
 LoopW.inv hT (fun x => upS (U x) (B x) (R x) (A x) st) J m x0 (StLe.auto h0) hJ h
theorem sxK {α : Type} (C : Cx) (I : α → St) (J : α → Prop) (m : α → Nat) (x : α) (K : Exit → St → Prop) :
  (∀ st, loopK C I J m x K .normal st = ∃ y, StLe C st (I y) ∧ J y ∧ m y < m x) ∧
  (∀ st, loopK C I J m x K .ret st = K .ret st) ∧
  (∀ i st, loopK C I J m x K (.exit i) st = K (.exit i) st) ∧
  (∀ v st, loopK C I J m x K (.panic v) st = K (.panic v) st) := ⟨fun _ => rfl, fun _ => rfl, fun _ _ => rfl, fun _ _ => rfl⟩

/-! ### regions by plans -/
def runPK (T : Tab) (C : Cx) (ops : List Oper) (p : Plan) (K : St → Prop) (fps : List (Nat × Fp)) (st : St) : Prop := runP T C ops p fps st K ⟨⟩
def qsK (i : Nat) (op : Op) (d : Option Nat) (fps : List (Nat × Fp)) (k : List (Nat × Fp) → St → Prop) (v : SV) (st : St) : Prop := k (addF i (fpOf st op) fps) (st.put d v)
def qgK (T : Tab) (C : Cx) (i : Nat) (op : Op) (d : Option Nat) (fps : List (Nat × Fp)) (k : List (Nat × Fp) → St → Prop) (st : St) : Prop := qOk st op ∧ opX T C op st (qsK i op d fps k) ⟨⟩
def esK (d : Option Nat) (fps : List (Nat × Fp)) (k : List (Nat × Fp) → St → Prop) (v : SV) (st : St) : Prop := k fps (st.put d v)
def egK (T : Tab) (C : Cx) (op : Op) (keep : List Nat) (d : Option Nat) (fps : List (Nat × Fp)) (k : List (Nat × Fp) → St → Prop) (st : St) : Prop := safeL st (opHt st op) fps keep ∧ opX T C op st (esK d fps k) ⟨⟩
def skK (d : Option Nat) (fps : List (Nat × Fp)) (k : List (Nat × Fp) → St → Prop) (st : St) : Prop := k fps (st.put d (.tup []))

theorem sxP0 :
  (∀ T C ops fps st K l, runP T C ops .done fps st K l = K st) ∧
  (∀ T C ops i p fps st K l, runP T C ops (.q i p) fps st K l = qStep T C ops i (nth ops i) fps st (runPK T C ops p K) ⟨⟩) ∧
  (∀ T C ops i keep p fps st K l, runP T C ops (.e i keep p) fps st K l = eStep T C ops keep (nth ops i) fps st (runPK T C ops p K) ⟨⟩) ∧
  (∀ T C ops i ki p j kj q fps st K l, runP T C ops (.e2 i ki p j kj q) fps st K l = (eStep T C ops ki (nth ops i) fps st (runPK T C ops p K) ⟨⟩ ∧ eStep T C ops kj (nth ops j) fps st (runPK T C ops q K) ⟨⟩)) ∧
  (∀ T C ops p K fps st, runPK T C ops p K fps st = runP T C ops p fps st K ⟨⟩) ∧
  (∀ T C ops i d op ty ps af fps st k l, qStep T C ops i (some ⟨d, op, ty, ps, af, none⟩) fps st k l = (qOk st op ∧ opX T C op st (qsK i op d fps k) ⟨⟩)) ∧
  (∀ T C ops i d op ty ps af j b fps st k l, qStep T C ops i (some ⟨d, op, ty, ps, af, some (j, b)⟩) fps st k l = gX (gSV st ops j) b (gD (nth ops j)) st (qgK T C i op d fps k) (skK d fps k) ⟨⟩) ∧
  (∀ T C ops keep d op ty ps af fps st k l, eStep T C ops keep (some ⟨d, op, ty, ps, af, none⟩) fps st k l = (safeL st (opHt st op) fps keep ∧ opX T C op st (esK d fps k) ⟨⟩)) ∧
  (∀ T C ops keep d op ty ps af j b fps st k l, eStep T C ops keep (some ⟨d, op, ty, ps, af, some (j, b)⟩) fps st k l = gX (gSV st ops j) b (gD (nth ops j)) st (egK T C op keep d fps k) (skK d fps k) ⟨⟩) ∧
  (∀ i op d fps k v tm bx rw, qsK i op (some d) fps k v ⟨tm, bx, rw⟩ = k (addF i (fpOf ⟨tm, bx, rw⟩ op) fps) ⟨(d, v) :: tm, bx, rw⟩) ∧
  (∀ i op fps k v st, qsK i op none fps k v st = k (addF i (fpOf st op) fps) st) ∧
  (∀ d fps k v tm bx rw, esK (some d) fps k v ⟨tm, bx, rw⟩ = k fps ⟨(d, v) :: tm, bx, rw⟩) ∧
  (∀ fps k v st, esK none fps k v st = k fps st) ∧
  (∀ d fps k tm bx rw, skK (some d) fps k ⟨tm, bx, rw⟩ = k fps ⟨(d, .tup []) :: tm, bx, rw⟩) ∧
  (∀ fps k st, skK none fps k st = k fps st) ∧
  (∀ T C i op d fps k st, qgK T C i op d fps k st = (qOk st op ∧ opX T C op st (qsK i op d fps k) ⟨⟩)) ∧
  (∀ T C op keep d fps k st, egK T C op keep d fps k st = (safeL st (opHt st op) fps keep ∧ opX T C op st (esK d fps k) ⟨⟩)) ∧
  (∀ (α : Type) (x : α) l, nth (x :: l) 0 = some x) ∧
  (∀ (α : Type) (x : α) l n, nth (x :: l) (n + 1) = nth l n) := by
 refine ⟨?_, ?_, ?_, ?_, ?_, ?_, ?_, ?_, ?_, ?_, ?_, ?_, ?_, ?_, ?_, ?_, ?_, ?_, ?_⟩ <;> (intros; rfl)

theorem sxP1_0 :
  (∀ st t x, fpOf st (.load t x) = fpV (st.ev x)) ∧
  (∀ st x, fpOf st (.move x) = .no) ∧
  (∀ st x, fpOf st (.assign x) = .no) ∧
  (∀ st c x y, fpOf st (.pick c x y) = .no) ∧
  (∀ st o t x y u, fpOf st (.binOp o t x y u) = .no) ∧
  (∀ st o t x, fpOf st (.unOp o t x) = .no) ∧
  (∀ st s d x, fpOf st (.convert s d x) = .no) ∧
  (∀ st t x f, fpOf st (.fieldAddr t x f) = .no) ∧
  (∀ st t x i, fpOf st (.indexAddr t x i) = .no) ∧
  (∀ st x i, fpOf st (.extract x i) = .no) ∧
  (∀ st x, fpOf st (.nilCheck x) = .no) ∧
  (∀ st t ps, fpOf st (.build t ps) = .no) ∧
  (∀ st f a b, fpOf st (.makeFunc f a b) = .no) ∧
  (∀ st c, fpOf st (.call c) = .no) ∧
  (∀ st t x lo hi m, fpOf st (.slice t x lo hi m) = .no) ∧
  (∀ st t x, qOk st (.load t x) = True) ∧
  (∀ st x, qOk st (.move x) = True) ∧
  (∀ st x, qOk st (.assign x) = True) ∧
  (∀ st c x y, qOk st (.pick c x y) = True) ∧
  (∀ st o t x y u, qOk st (.binOp o t x y u) = (notSl (st.ev x) = true)) ∧
  (∀ st o t x, qOk st (.unOp o t x) = True) ∧
  (∀ st s d x, qOk st (.convert s d x) = (notStr (st.ev x) = true)) ∧
  (∀ st t x f, qOk st (.fieldAddr t x f) = True) ∧
  (∀ st t x i, qOk st (.indexAddr t x i) = True) ∧
  (∀ st x i, qOk st (.extract x i) = True) ∧
  (∀ st x, qOk st (.nilCheck x) = True) ∧
  (∀ st t ps, qOk st (.build t ps) = True) ∧
  (∀ st f a b, qOk st (.makeFunc f a b) = True) ∧
  (∀ st c, qOk st (.call c) = True) ∧
  (∀ st t x lo hi m, qOk st (.slice t x lo hi m) = (notRow (st.ev x) = true)) ∧
  (∀ x, notRow (.v x) = true) ∧
  (∀ b s e, notRow (.sl b s e) = true) ∧
  (∀ k n, notSl (.v (.int k n)) = true) ∧
  (∀ k, notSl (.v (.bool k)) = true) ∧
  (∀ k, notSl (.v (.string k)) = true) ∧
  (∀ k, notSl (.v (.pointer k)) = true) ∧
  (∀ l, notSl (.agg l) = true) ∧
  (∀ k o, fpV (.box k o) = .box k) ∧
  (∀ r i s o, fpV (.relt r i s o) = .row r) ∧
  (∀ b c, fpV (.pt b c) = .imm) := by
 refine ⟨?_, ?_, ?_, ?_, ?_, ?_, ?_, ?_, ?_, ?_, ?_, ?_, ?_, ?_, ?_, ?_, ?_, ?_, ?_, ?_, ?_, ?_, ?_, ?_, ?_, ?_, ?_, ?_, ?_, ?_, ?_, ?_, ?_, ?_, ?_, ?_, ?_, ?_, ?_, ?_⟩ <;> (intros; first | rfl | (simp [leT, leB, leB1, safeL, safe1, argOk, qOk]; done))
theorem sxP1_1 :
  (∀ x, fpV (.v x) = .imm) ∧
  (∀ st t x y, opHt st (.store t x y) = htV (st.ev x)) ∧
  (∀ st x y ts, opHt st (.call ⟨.builtin .append, ⟨[x, y]⟩, ts⟩) = htV (st.ev x)) ∧
  (∀ st f xs ts, opHt st (.call ⟨.value f, ⟨xs⟩, ts⟩) = callHt (st.ev f) (xs.map st.ev)) ∧
  (∀ st t, opHt st (.alloc t) = .no) ∧
  (∀ st t x, opHt st (.box t x) = .no) ∧
  (∀ st t n ps, opHt st (.buildSlice t n ps) = .no) ∧
  (∀ st t a b, opHt st (.makeSlice t a b) = .no) ∧
  (∀ k o, htV (.box k o) = .box k) ∧
  (∀ r i s o, htV (.relt r i s o) = .row r) ∧
  (∀ r, htV (.row r) = .row r) ∧
  (∀ x, htV (.v x) = .no) ∧
  (∀ i l, addF i .no l = l) ∧
  (∀ i l, addF i .imm l = (i, .imm) :: l) ∧
  (∀ i k l, addF i (.box k) l = (i, .box k) :: l) ∧
  (∀ i k l, addF i (.row k) l = (i, .row k) :: l) ∧
  (∀ t x l u, lookF ((t, x) :: l) u = if t = u then x else lookF l u) ∧
  (∀ u, lookF [] u = .no) ∧
  (∀ st ht fps, safeL st ht fps [] = True) ∧
  (∀ st ht fps i l, safeL st ht fps (i :: l) = (safe1 st ht (lookF fps i) ∧ safeL st ht fps l)) ∧
  (∀ st fp, safe1 st .no fp = True) ∧
  (∀ st b, safe1 st (.box b) .imm = (aliveB (nth st.bx b) = true)) ∧
  (∀ st r, safe1 st (.row r) .imm = (aliveR (nth st.rw r) = true)) ∧
  (∀ st b k, safe1 st (.box b) (.box k) = (b ≠ k ∧ aliveB (nth st.bx b) = true ∧ aliveB (nth st.bx k) = true)) ∧
  (∀ st r k, safe1 st (.row r) (.box k) = (aliveR (nth st.rw r) = true ∧ aliveB (nth st.bx k) = true)) ∧
  (∀ st b r, safe1 st (.box b) (.row r) = (aliveB (nth st.bx b) = true ∧ aliveR (nth st.rw r) = true)) ∧
  (∀ st b r, safe1 st (.row b) (.row r) = (b ≠ r ∧ aliveR (nth st.rw b) = true ∧ aliveR (nth st.rw r) = true)) ∧
  (∀ st b, safe1 st (.box b) .no = True) ∧
  (∀ st b, safe1 st (.row b) .no = True) ∧
  (∀ x, aliveB (some (some x)) = true) ∧
  (∀ e s l, aliveR (some (.own e s l)) = true) := by
 refine ⟨?_, ?_, ?_, ?_, ?_, ?_, ?_, ?_, ?_, ?_, ?_, ?_, ?_, ?_, ?_, ?_, ?_, ?_, ?_, ?_, ?_, ?_, ?_, ?_, ?_, ?_, ?_, ?_, ?_, ?_, ?_⟩ <;> (intros; first | rfl | (simp [leT, leB, leB1, safeL, safe1, argOk, qOk]; done))
theorem sxA_0 :
  (∀ n k, shV n (.row k) = .row (k + n)) ∧
  (∀ n k i s o, shV n (.relt k i s o) = .relt (k + n) i s o) ∧
  (∀ n l, shV n (.agg l) = .agg (shL n l)) ∧
  (∀ n l, shV n (.tup l) = .tup (shL n l)) ∧
  (∀ n f l, shV n (.clo f l) = .clo f (shL n l)) ∧
  (∀ n x, shV n (.v x) = .v x) ∧
  (∀ n, shV n .any = .any) ∧
  (∀ n b s e, shV n (.sl b s e) = .sl b s e) ∧
  (∀ n b c, shV n (.pt b c) = .pt b c) ∧
  (∀ n, shL n [] = []) ∧
  (∀ n x l, shL n (x :: l) = shV n x :: shL n l) ∧
  (∀ tm bx rw v rw', extSt ⟨tm, bx, rw⟩ ⟨v, rw'⟩ = ⟨tm, bx, rw ++ rw'⟩) ∧
  (∀ rw bx, argOk rw bx [] [] = True) ∧
  (∀ rw bx x l y l', argOk rw bx (x :: l) (y :: l') = (argO (lendA rw bx x) y ∧ argOk rw bx l l')) ∧
  (∀ x y, argO (some x) y = leV [] [] x y) ∧
  (∀ rw bx l, lendA rw bx (.agg l) = (lendL rw bx 12 l).map fun ds => .agg (ofDL ds)) ∧
  (∀ rw bx, lendA rw bx .any = some .any) ∧
  (∀ rw bx x, lendA rw bx (.v x) = (lendO rw bx 12 (.v x)).map ofD) ∧
  (∀ rw bx b s e, lendA rw bx (.sl b s e) = (lendO rw bx 12 (.sl b s e)).map ofD) ∧
  (∀ rw bx b c, lendA rw bx (.pt b c) = (lendO rw bx 12 (.pt b c)).map ofD) ∧
  (∀ rw bx k, lendA rw bx (.row k) = (lendO rw bx 12 (.row k)).map ofD) ∧
  (∀ rw bx k o, lendA rw bx (.box k o) = (lendO rw bx 12 (.box k o)).map ofD) ∧
  (∀ rw bx f l, lendA rw bx (.clo f l) = (lendO rw bx 12 (.clo f l)).map ofD) ∧
  (∀ rw bx n x, lendO rw bx (n + 1) (.v x) = vD x (oneV x)) ∧
  (∀ rw bx n b s e, lendO rw bx (n + 1) (.sl b s e) = some (.sl b s e)) ∧
  (∀ rw bx n b c, lendO rw bx (n + 1) (.pt b c) = some (.pt b c)) ∧
  (∀ rw bx n k, lendO rw bx (n + 1) (.row k) = lenR1 (nth rw k)) ∧
  (∀ rw bx n k o, lendO rw bx (n + 1) (.box k o) = ptO o (bindO (lendL rw bx n) (bxC (nth bx k)))) ∧
  (∀ rw bx n f l, lendO rw bx (n + 1) (.clo f l) = (lendL rw bx n l).map (.clo f ·)) ∧
  (∀ rw bx n, lendL rw bx n [] = some []) ∧
  (∀ rw bx n x l, lendL rw bx n (x :: l) = consO (lendO rw bx n x) (lendL rw bx n l)) ∧
  (∀ e s l, lenR1 (some (.own e s l)) = if s = 0 then none else some (.sl false s l)) ∧
  (∀ s l, lenR1 (some (.frz s l)) = some (.sl true s l)) ∧
  (∀ b, bxC (some (some b)) = some b.cells) ∧
  (∀ o cs, ptO o (some cs) = some (.pt false (dropN o cs))) ∧
  (∀ f l, bindO f (some l) = f l) ∧
  (∀ args, initSt args = ⟨argI 0 args, [], []⟩) ∧
  (∀ n, argI n [] = []) ∧
  (∀ n x l, argI n (x :: l) = (n, x) :: argI (n + 1) l) ∧
  (∀ T rs tm K st, inlK T rs tm K .normal st = inl2 (ressS T st rs) tm st K ⟨⟩) := by
 refine ⟨?_, ?_, ?_, ?_, ?_, ?_, ?_, ?_, ?_, ?_, ?_, ?_, ?_, ?_, ?_, ?_, ?_, ?_, ?_, ?_, ?_, ?_, ?_, ?_, ?_, ?_, ?_, ?_, ?_, ?_, ?_, ?_, ?_, ?_, ?_, ?_, ?_, ?_, ?_, ?_⟩ <;> (intros; first | rfl | (simp [leT, leB, leB1, safeL, safe1, argOk, qOk]; done))
theorem sxA_1 :
  (∀ T rs tm K st, inlK T rs tm K .ret st = inl2 (ressS T st rs) tm st K ⟨⟩) ∧
  (∀ l tm tm' bx rw K k, inl2 (some l) tm ⟨tm', bx, rw⟩ K k = K (normD rw (tupV l)) ⟨tm, bx, rw⟩) := by
 refine ⟨?_, ?_⟩ <;> (intros; first | rfl | (simp [leT, leB, leB1, safeL, safe1, argOk, qOk]; done))
theorem sxS_0 :
  (∀ tm, pickT tm [] = []) ∧
  (∀ tm t l, pickT tm (t :: l) = (t, look tm t) :: pickT tm l) ∧
  (∀ l, dedN [] l = l) ∧
  (∀ k l a, dedN (k :: l) a = dedN l (addN k a)) ∧
  (∀ k l, addN k l = if memN k l = true then l else l ++ [k]) ∧
  (∀ k, memN k [] = false) ∧
  (∀ k x l, memN k (x :: l) = if x = k then true else memN k l) ∧
  (bxVals [] = []) ∧
  (∀ b l, bxVals (some b :: l) = b.cells ++ bxVals l) ∧
  (valsT [] = []) ∧
  (∀ t x l, valsT ((t, x) :: l) = x :: valsT l) ∧
  (∀ x l k, idxK (x :: l) k = if x = k then 0 else idxK l k + 1) ∧
  (∀ γ k, renV γ (.row k) = .row (idxK γ k)) ∧
  (∀ γ l, renV γ (.agg l) = .agg (renL γ l)) ∧
  (∀ γ l, renV γ (.tup l) = .tup (renL γ l)) ∧
  (∀ γ f l, renV γ (.clo f l) = .clo f (renL γ l)) ∧
  (∀ γ k i s o, renV γ (.relt k i s o) = .any) ∧
  (∀ γ, renV γ .any = .any) ∧
  (∀ γ x, renV γ (.v x) = .v x) ∧
  (∀ γ b s e, renV γ (.sl b s e) = .sl b s e) ∧
  (∀ γ b c, renV γ (.pt b c) = .pt b c) ∧
  (∀ γ k o, renV γ (.box k o) = .box k o) ∧
  (∀ γ, renL γ [] = []) ∧
  (∀ γ x l, renL γ (x :: l) = renV γ x :: renL γ l) ∧
  (∀ γ rw, renT γ rw [] = []) ∧
  (∀ γ rw t x l, renT γ rw ((t, x) :: l) = (t, renV γ (norm rw x)) :: renT γ rw l) ∧
  (∀ γ rw, renC γ rw [] = []) ∧
  (∀ γ rw x l, renC γ rw (x :: l) = renV γ (norm rw x) :: renC γ rw l) ∧
  (∀ γ rw, renB γ rw [] = []) ∧
  (∀ γ rw b l, renB γ rw (some b :: l) = some ⟨b.ty, renC γ rw b.cells⟩ :: renB γ rw l) ∧
  (∀ rw, pickR rw [] = []) ∧
  (∀ rw k l, pickR rw (k :: l) = rwGet (nth rw k) :: pickR rw l) ∧
  (∀ x, rwGet (some x) = x) ∧
  (∀ keep tm bx rw, gamK keep ⟨tm, bx, rw⟩ = dedN (ghI rw ++ rowsIn rw (valsT (pickT tm keep) ++ bxVals bx)) []) ∧
  (∀ γ keep tm bx rw, compK γ keep ⟨tm, bx, rw⟩ = ⟨renT γ rw (pickT tm keep), renB γ rw bx, pickR rw γ⟩) ∧
  (∀ keep st, compS keep st = compK (gamK keep st) keep st) ∧
  (∀ l, rngN 0 l = l) ∧
  (∀ n l, rngN (n + 1) l = rngN n (n :: l)) ∧
  (∀ rw, ovR [] rw = rw) ∧
  (∀ k els l rw, ovR ((k, els) :: l) rw = ovR l (ovR.ov1 (nth rw k) k els rw)) := by
 refine ⟨?_, ?_, ?_, ?_, ?_, ?_, ?_, ?_, ?_, ?_, ?_, ?_, ?_, ?_, ?_, ?_, ?_, ?_, ?_, ?_, ?_, ?_, ?_, ?_, ?_, ?_, ?_, ?_, ?_, ?_, ?_, ?_, ?_, ?_, ?_, ?_, ?_, ?_, ?_, ?_⟩ <;> (intros; first | rfl | (simp [leT, leB, leB1, safeL, safe1, argOk, qOk]; done))
theorem sxS_1 :
  (∀ e s x k els rw, ovR.ov1 (some (.own e s x)) k els rw = setN rw k (.own e s els)) ∧
  (∀ bx, ovB [] bx = bx) ∧
  (∀ k cs l bx, ovB ((k, cs) :: l) bx = ovB l (ovB.ov1 (nth bx k) k cs bx)) ∧
  (∀ b k cs bx, ovB.ov1 (some (some b)) k cs bx = setN bx k (some ⟨b.ty, cs⟩)) ∧
  (∀ u b r a tm bx rw, upS u b r a ⟨tm, bx, rw⟩ = ⟨u ++ delT u tm, ovB b bx, ovR r rw ++ a⟩) ∧
  (∀ t, hasT t [] = false) ∧
  (∀ t t' x l, hasT t ((t', x) :: l) = if t' = t then true else hasT t l) ∧
  (∀ u, delT u [] = []) ∧
  (∀ u t x l, delT u ((t, x) :: l) = if hasT t u = true then delT u l else (t, x) :: delT u l) ∧
  (∀ tm rw, pairT tm rw [] = []) ∧
  (∀ tm rw t x l, pairT tm rw ((t, x) :: l) = (x, norm rw (look tm t)) :: pairT tm rw l) ∧
  (∀ rw, pairC rw [] [] = []) ∧
  (∀ rw x l y l', pairC rw (x :: l) (y :: l') = (x, norm rw y) :: pairC rw l l') ∧
  (∀ rw bx, pairB rw bx [] [] = []) ∧
  (∀ rw bx b l k ks, pairB rw bx (some b :: l) (k :: ks) = pairB.pairB1 rw (nth bx k) b.cells ++ pairB rw bx l ks) ∧
  (∀ rw b cs, pairB.pairB1 rw (some (some b)) cs = pairC rw cs b.cells) ∧
  (∀ k o, isB (.box k o) = some k) ∧
  (isB .any = none) ∧
  (∀ x, isB (.v x) = none) ∧
  (∀ b s e, isB (.sl b s e) = none) ∧
  (∀ b c, isB (.pt b c) = none) ∧
  (∀ k, isB (.row k) = none) ∧
  (∀ k i s o, isB (.relt k i s o) = none) ∧
  (∀ l, isB (.agg l) = none) ∧
  (∀ l, isB (.tup l) = none) ∧
  (∀ f l, isB (.clo f l) = none) ∧
  (∀ k, isR (.row k) = some k) ∧
  (isR .any = none) ∧
  (∀ x, isR (.v x) = none) ∧
  (∀ b s e, isR (.sl b s e) = none) ∧
  (∀ b c, isR (.pt b c) = none) ∧
  (∀ k o, isR (.box k o) = none) ∧
  (∀ k i s o, isR (.relt k i s o) = none) ∧
  (∀ l, isR (.agg l) = none) ∧
  (∀ l, isR (.tup l) = none) ∧
  (∀ f l, isR (.clo f l) = none) ∧
  (∀ k j, eqO k (some j) = (j == k)) ∧
  (∀ k, eqO k none = false) ∧
  (∀ k, fndB k [] = k) ∧
  (∀ k x y l, fndB k ((x, y) :: l) = fndB.fb1 (eqO k (isB x)) (isB y) (fndB k l)) := by
 refine ⟨?_, ?_, ?_, ?_, ?_, ?_, ?_, ?_, ?_, ?_, ?_, ?_, ?_, ?_, ?_, ?_, ?_, ?_, ?_, ?_, ?_, ?_, ?_, ?_, ?_, ?_, ?_, ?_, ?_, ?_, ?_, ?_, ?_, ?_, ?_, ?_, ?_, ?_, ?_, ?_⟩ <;> (intros; first | rfl | (simp [leT, leB, leB1, safeL, safe1, argOk, qOk]; done))
theorem sxS_2 :
  (∀ j r, fndB.fb1 true (some j) r = j) ∧
  (∀ r, fndB.fb1 true none r = r) ∧
  (∀ y r, fndB.fb1 false y r = r) ∧
  (∀ k, fndR k [] = none) ∧
  (∀ k x y l, fndR k ((x, y) :: l) = fndR.fr1 (eqO k (isR x)) y (fndR k l)) ∧
  (∀ y r, fndR.fr1 true y r = isR y) ∧
  (∀ y r, fndR.fr1 false y r = r) ∧
  (∀ n ps, betaK n ps [] = []) ∧
  (∀ n ps k l, betaK n ps (k :: l) = fndB k ps :: betaK n ps l) ∧
  (∀ ps, gamR ps [] = []) ∧
  (∀ ps k l, gamR ps (k :: l) = fndR k ps :: gamR ps l) ∧
  (∀ tm bx rw tm' bx' rw', betaOf ⟨tm, bx, rw⟩ ⟨tm', bx', rw'⟩ = betaK 0 (pairT tm rw tm') (rngN (lenN bx') [])) ∧
  (∀ β tm bx rw tm' bx' rw', gamOf β ⟨tm, bx, rw⟩ ⟨tm', bx', rw'⟩ = gamG rw' (gamR (pairT tm rw tm' ++ pairB rw bx bx' β) (rngN (lenN rw') []))) ∧
  (∀ C β γ st st', leA2 C β γ st st' = (β.Nodup ∧ (γ.filterMap id).Nodup ∧ leSt β γ st st' ∧ pinB β (rngN C.pin.nb []) ∧ pinG γ (rngN C.pin.nr []))) ∧
  (∀ C β st st', leA1 C β st st' = leA2 C β (gamOf β st st') st st') ∧
  (∀ C st st', leA C st st' = leA1 C (betaOf st st') st st') ∧
  (∀ β γ a b c a' b' c', leSt β γ ⟨a, b, c⟩ ⟨a', b', c'⟩ = (leT β γ c a a' ∧ leB β γ c b b' β ∧ leR c c' γ)) ∧
  (∀ β γ rw tm, leT β γ rw tm [] = True) ∧
  (∀ β γ rw tm t y l, leT β γ rw tm ((t, y) :: l) = (leV β γ (norm rw (look tm t)) y ∧ leT β γ rw tm l)) ∧
  (∀ β γ rw bx, leB β γ rw bx [] [] = True) ∧
  (∀ β, pinB β [] = True) ∧
  (∀ β k l, pinB β (k :: l) = (nth β k = some k ∧ pinB β l)) ∧
  (∀ γ, pinG γ [] = True) ∧
  (∀ γ k l, pinG γ (k :: l) = (nth γ k = some (some k) ∧ pinG γ l)) ∧
  (pin0.nb = 0) ∧
  (pin0.nr = 0) ∧
  (∀ a b c d e q h, Pin.nb ⟨a, b, c, d, e, q, h⟩ = a) ∧
  (∀ a b c d e q h, Pin.nr ⟨a, b, c, d, e, q, h⟩ = b) ∧
  (∀ a b c d e f, Cx.pin ⟨a, b, c, d, e, f⟩ = e) ∧
  (∀ β γ rw bx ty cs l k ks, leB β γ rw bx (some ⟨ty, cs⟩ :: l) (k :: ks) = (leB1 β γ rw (nth bx k) ty cs ∧ leB β γ rw bx l ks)) ∧
  (∀ β γ rw ty cs ty' cs', leB1 β γ rw (some (some ⟨ty, cs⟩)) ty' cs' = (ty = ty' ∧ leL β γ (cs.map (norm rw)) cs')) := by
 refine ⟨?_, ?_, ?_, ?_, ?_, ?_, ?_, ?_, ?_, ?_, ?_, ?_, ?_, ?_, ?_, ?_, ?_, ?_, ?_, ?_, ?_, ?_, ?_, ?_, ?_, ?_, ?_, ?_, ?_, ?_, ?_⟩ <;> (intros; first | rfl | (simp [leT, leB, leB1, safeL, safe1, argOk, qOk]; done))
theorem sxP1 : type_of% (And.intro sxP1_0 sxP1_1) := And.intro sxP1_0 sxP1_1
theorem sxA : type_of% (And.intro sxA_0 sxA_1) := And.intro sxA_0 sxA_1
theorem sxS : type_of% (And.intro sxS_0 (And.intro sxS_1 sxS_2)) := And.intro sxS_0 (And.intro sxS_1 sxS_2)

theorem sxN :
  (∀ (α : Type), ([] : List α).length = 0) ∧
  (∀ (α : Type) (a : α) (l : List α), (a :: l).length = l.length + 1) ∧
  (∀ (α β : Type) (f : α → β) (l : List α), (l.map f).length = l.length) ∧
  (∀ (α : Type) (l : List α) (i : Nat) (a : α), (l.set i a).length = l.length) ∧
  (∀ (α : Type) (f : α → α) (l : List α) (i : Nat), (l.modify i f).length = l.length) ∧
  (∀ (α : Type) (n : Nat) (a : α), (List.replicate n a).length = n) ∧
  (∀ (α : Type) (l : List α), l.reverse.length = l.length) ∧
  (∀ (α : Type) (l m : List α), (l ++ m).length = l.length + m.length) ∧
  (∀ (α : Type) (l : List α), l ++ [] = l) ∧
  (∀ (α : Type) (l : List α), [] ++ l = l) ∧
  (∀ (α : Type) (a : α) (l m : List α), (a :: l) ++ m = a :: (l ++ m)) ∧
  (∀ n : Nat, (n + 1 ≠ 0) = True) ∧
  (∀ n : Nat, 0 ≤ n) ∧ (∀ n : Nat, 0 + n = n) ∧ (∀ n : Nat, n + 0 = n) ∧ (∀ n : Nat, n ≤ n) ∧
  (∀ p : Prop, (p ∧ True) = p) ∧ (∀ p : Prop, (True ∧ p) = p) ∧
  (∀ b : Bool, (b && b) = b) ∧ ((!true) = false) ∧ ((!false) = true) ∧ ((false = true) = False) ∧ ((¬ False) = True) :=
 ⟨fun _ => rfl, fun _ _ _ => rfl, fun _ _ _ _ => List.length_map _, fun _ _ _ _ => List.length_set, fun _ _ _ _ => List.length_modify _ _ _, fun _ _ _ => List.length_replicate, fun _ _ => List.length_reverse, fun _ _ _ => List.length_append,
  fun _ _ => List.append_nil _, fun _ _ => rfl, fun _ _ _ _ => rfl, nz, Nat.zero_le, Nat.zero_add, fun _ => rfl, Nat.le_refl, fun _ => and_true _, fun _ => true_and _, Bool.and_self, rfl, rfl, by simp, by simp⟩

end Go.Vx
