/-
 Ranges over functions: what an iterator's contract says, and how a loop over one is carried out.
-/
import Derived.Test.YtgcmppghjfidfaaGreatDoorVMut
namespace Go.Vx
open Go Go.RowKit
set_option linter.unusedSimpArgs false

mutual
/-- data alone: nothing that is owned. -/
def immV : SV → Bool
 | .any => false
 | .box .. => false
 | .row _ => false
 | .relt .. => false
 | .arm => false
 | .ali .. => false
 | .bxa .. => false
 | .glo .. => false
 | .cap .. => false
 | .v _ => true
 | .sl .. => true
 | .pt .. => true
 | .agg l => immVL l
 | .tup l => immVL l
 | .clo _ l => immVL l
def immVL : List SV → Bool
 | [] => true
 | x :: l => immV x && immVL l
end
mutual
/-- data is the same in every ghost that knows its memory. -/
theorem rel_imm {g g' : Gh} (h : g.μ.LeC g'.μ) : ∀ (v : SV) (u : Value), immV v = true → rel g v u → rel g' v u
 | .any, _, hi, _ => by simp [immV] at hi
 | .box .., _, hi, _ => by simp [immV] at hi
 | .row _, _, hi, _ => by simp [immV] at hi
 | .relt .., _, hi, _ => by simp [immV] at hi
 | .arm, _, hi, _ => by simp [immV] at hi
 | .ali .., _, hi, _ => by simp [immV] at hi
 | .bxa .., _, hi, _ => by simp [immV] at hi
 | .glo .., _, hi, _ => by simp [immV] at hi
 | .cap .., _, hi, _ => by simp [immV] at hi
 | .v _, _, _, k => k
 | .sl .., _, _, k => Rd.monoC h _ _ k
 | .pt .., _, _, k => Rd.monoC h _ _ k
 | .agg l, _, hi, ⟨cs, h1, h2⟩ => ⟨cs, h1, rels_imm h l _ (by simpa [immV] using hi) h2⟩
 | .tup l, _, hi, ⟨cs, h1, h2⟩ => ⟨cs, h1, rels_imm h l _ (by simpa [immV] using hi) h2⟩
 | .clo _ l, _, hi, ⟨cs, h1, h2⟩ => ⟨cs, h1, rels_imm h l _ (by simpa [immV] using hi) h2⟩
theorem rels_imm {g g' : Gh} (h : g.μ.LeC g'.μ) : ∀ (l : List SV) (us : List Value), immVL l = true → rels g l us → rels g' l us
 | [], [], _, k => k
 | x :: l, u :: us, hi, k => by
  simp only [immVL, Bool.and_eq_true] at hi
  exact ⟨rel_imm h x u hi.1 k.1, rels_imm h l us hi.2 k.2⟩
 | [], _ :: _, _, k => k.elim
 | _ :: _, [], _, k => k.elim
end
theorem Mu.Le.toC {μ ν : Mu} (h : μ.Le ν) : μ.LeC ν := fun f _ _ hc => (h f).cell hc
theorem Mu.LeC.trans {a b c : Mu} (h : a.LeC b) (k : b.LeC c) : a.LeC c := fun f x v hv => k f x v (h f x v hv)
/-- of memory, the cells alone. -/
def cellsH (μ : Hp) : Hp := fun b => match μ b with
 | some (.cells c t g) => some (.cells c t g)
 | _ => none
theorem cellsH_some {μ : Hp} {b : Nat} {o : Obj} (h : cellsH μ b = some o) : μ b = some o ∧ o.isCells = true := by
 unfold cellsH at h
 split at h
 ·rename_i hb; cases h; exact ⟨hb, rfl⟩
 ·cases h
theorem cellsH_cell {μ : Hp} {a : Addr} {v : Value} (h : μ.cell a = some v) : (cellsH μ).cell a = some v := by
 unfold Hp.cell at h ⊢
 unfold cellsH
 split at h
 ·rename_i hb; rw [hb]; exact h
 ·cases h

/-- a ghost that knows memory alone. -/
def gMu (μ : Mu) (w : World) : Gh := ⟨0, 0, fun _ => 0, fun _ => .nilFunc, fun _ => .imm, μ, fun _ => false, w, fun _ => false⟩

/-- What the loop that is served promises. -/
structure YdOk (P : Program) (base : Nat) (kp : Hp) (yd : Yd) (xs : List (List SV)) : Prop where
 frame : ∀ s ys fo mp w w' fo', yd.J s ys fo mp w → (∀ b, fo b = true → w'.heap[b]? = w.heap[b]?) → w.heap.size ≤ w'.heap.size → w'.os = w.os → w'.tape = w.tape → w'.output = w.output → (∀ b, fo b = true → fo' b = true) → yd.J s ys fo' mp w'
 step : ∀ ys d fo mp w (S : Nat → Bool) (μ : Mu) vs, yd.J false ys fo mp w → (ys ++ [d]) <+: xs →
  (∀ b, fo b = true → b < w.heap.size) → (∀ b, mp b = true → fo b = true) → (∀ b, S b = true → fo b = false ∧ b < w.heap.size ∧ ∀ f, μ f b = none) →
  (∀ f, (μ f).In w) → (∀ f b o, μ f b = some o → mp b = false) → (∀ b o, μ true b = some o → base ≤ b ∨ ∃ o', kp b = some o') →
  immVL d = true → rels (gMu μ w) d vs →
  ∃ fn tmps assign body, (Instr.yield yd.yl vs.toArray).run P w = .ok (.round yd.yl fn tmps assign body) w ∧ RoundIn Fence.wide 0 P yd.yl fn tmps assign body w (fun e w' => ∃ s fo' mp', e = .returned (.bool (!s)) ∧ yd.J s (ys ++ [d]) fo' mp' w' ∧
   w.heap.size ≤ w'.heap.size ∧ w'.os = w.os ∧ w'.tape = w.tape ∧ w'.output = w.output ∧ (∀ b, b < w.heap.size → mp b = false → w'.heap[b]? = w.heap[b]?) ∧
   (∀ b, mp' b = true → mp b = true ∨ w.heap.size ≤ b) ∧ (∀ b, mp' b = true → fo' b = true) ∧ (∀ b, fo' b = true → b < w'.heap.size ∧ S b = false))

theorem Gh.Le.hse (g : Gh) (fo : Nat → Bool) (wy : World) (mp : Nat → Bool) : g.Le { g with fo := fo, wy := wy, mp := mp } := ⟨Nat.le_refl _, Nat.le_refl _, fun _ _ => rfl, fun _ _ => rfl, .refl _⟩
def noGhB : List Rw → Bool
 | [] => true
 | .gh _ _ :: _ => false
 | .own .. :: l => noGhB l
 | .frz .. :: l => noGhB l
 | .gone :: l => noGhB l
theorem noGhB_spec : ∀ {l : List Rw}, noGhB l = true → ∀ (k : Nat) s ys, l[k]? = some (Rw.gh s ys) → False
 | [], _, k, s, ys, h => by simp at h
 | .gh _ _ :: _, h, _, _, _, _ => by simp [noGhB] at h
 | .own .. :: l, h, 0, s, ys, hk => by simp at hk
 | .frz .. :: l, h, 0, s, ys, hk => by simp at hk
 | .gone :: l, h, 0, s, ys, hk => by simp at hk
 | .own .. :: l, h, k + 1, s, ys, hk => noGhB_spec (l := l) (by simpa [noGhB] using h) k s ys (by simpa using hk)
 | .frz .. :: l, h, k + 1, s, ys, hk => noGhB_spec (l := l) (by simpa [noGhB] using h) k s ys (by simpa using hk)
 | .gone :: l, h, k + 1, s, ys, hk => noGhB_spec (l := l) (by simpa [noGhB] using h) k s ys (by simpa using hk)
def tlR : List Rw → List Rw
 | [] => []
 | _ :: l => l
/-! ### a round of the loop that is served -/
section
variable {C : Cx} {st : St} {K : SV → St → Prop}
theorem YldI.of {xs : List (List SV)} (hok : YdOk C.P C.w0.heap.size C.kp C.pin.ho.yd xs) (hdr : C.dr = false) {l : Nat} (hl : l = C.pin.ho.yd.yl) {args : List SV} {ys : List (List SV)} {st1 : St} {d : List SV}
  (hst : frzX (rowsIn st.rw args) st = st1) (hd : normDL st1.rw args = d) (hg : nth st1.rw 0 = some (.gh false ys)) (hone : noGhB (tlR st1.rw) = true) (himm : immVL d = true) (hmore : (ys ++ [d]) <+: xs)
  (h1 : K (.v (.bool true)) { st1 with rw := setN st1.rw 0 (.gh false (ys ++ [d])) }) (h2 : K (.v (.bool false)) { st1 with rw := setN st1.rw 0 (.gh true (ys ++ [d])) }) : YldI C l args st K ⟨⟩ := by
 subst hl
 refine ⟨hdr, fun g0 a w ht0 hm0 vs hvs => ?_⟩
 obtain ⟨g, hle, ht, hm, _, _⟩ := frz_sound (rowsIn st.rw args) ht0 hm0
 rw [hst] at ht hm
 have hvs : rels g d vs := by rw [← hd]; exact rels_normD ht _ _ (rels_mono hle _ _ hvs)
 obtain ⟨ds, d1, d2, d3, d4⟩ := ht.defers
 have d5 : ∀ D ∈ ds, g.tag D = .imm ∧ w.heap[D]? = some (.deferred (some [])) := fun D hD => ⟨(hm.imm false).2 D _ (d2 D hD).1, (hm.imm false).1 D _ (d2 D hD).1⟩
 let tI : Tag → Bool := fun t => match t with | .imm => true | _ => false
 have htI : ∀ t, tI t = true ↔ t = .imm := fun t => by cases t <;> simp [tI]
 let S : Nat → Bool := fun b => !tI (g.tag b) || (C.pin.ho.lp b || decide (b ∈ ds))
 let fo : Nat → Bool := fun b => decide (b < w.heap.size) && !S b
 have hS : ∀ b, S b = true ↔ (g.tag b ≠ .imm ∨ C.pin.ho.lp b = true ∨ b ∈ ds) := fun b => by
  simp only [S, Bool.or_eq_true, Bool.not_eq_true', decide_eq_true_eq]
  rw [← Bool.not_eq_true, htI]
 have hSlt : ∀ b, S b = true → b < w.heap.size := fun b hb => by
  rcases (hS b).1 hb with h | h | h
  ·exact Nat.lt_of_not_le fun hge => h (hm.fresh b hge)
  ·exact hm.hs.lt true b (hm.hs.lp b h).1
  ·exact heap_lt (d5 b h).2
 have hfoS : ∀ b, g.fo b = true → fo b = true := fun b hb => by
  simp only [fo, Bool.and_eq_true, decide_eq_true_eq, Bool.not_eq_true']
  refine ⟨hm.hs.lt false b hb, ?_⟩
  rw [← Bool.not_eq_true, hS]
  rintro (h | h | h)
  ·exact h (hm.old false b hb).2
  ·rw [(hm.hs.lp b h).2.1] at hb; cases hb
  ·rw [(d2 b h).2.2] at hb; cases hb
 have hg0 : st1.rw[0]? = some (Rw.gh false ys) := by rw [← nth_eq]; exact hg
 have hJ := hok.frame _ _ _ _ _ w fo (hm.hs.jj 0 _ _ hg0) (fun b hb => (hm.old false b hb).1) hm.hs.wy.1 (hm.os.trans hm.hs.wy.2.1.symm) (hm.tape.trans hm.hs.wy.2.2.1.symm) (hm.output.trans hm.hs.wy.2.2.2.symm) hfoS
 let μ : Mu := fun f => cellsH (g.μ f)
 have hμ : ∀ f b o, μ f b = some o → g.μ f b = some o ∧ o.isCells = true := fun f b o h => cellsH_some h
 have hSμ : ∀ b, S b = true → ∀ f, μ f b = none := fun b hb f => by
  cases hx : μ f b with
  | none => rfl
  | some o =>
   obtain ⟨h3, h4⟩ := hμ f b o hx
   rcases (hS b).1 hb with h | h | h
   ·exact (h ((hm.imm f).2 b o h3)).elim
   ·rw [(hm.hs.lp b h).2.2 f o h3] at h4; cases h4
   ·have := (hm.imm f).1 b o h3
    rw [(d5 b h).2] at this; cases this; cases h4
 obtain ⟨fn, tmps, assign, body, hy, hR⟩ := hok.step ys d fo g.mp w S μ vs hJ hmore (fun b hb => by
   simp only [fo, Bool.and_eq_true, decide_eq_true_eq] at hb; exact hb.1) (fun b hb => hfoS b (hm.hs.mp b hb).1)
  (fun b hb => ⟨by simp [fo, hb], hSlt b hb, hSμ b hb⟩)
  (fun f b o h => (hm.imm f).1 b o (hμ f b o h).1) (fun f b o h => by
   cases hx : g.mp b with
   | false => rfl
   | true => have := (hm.hs.mp b hx).2 f; rw [(hμ f b o h).1] at this; cases this) (fun b o h => (hm.keep b o (hμ true b o h).1).1) himm (rels_imm (fun f a v hv => cellsH_cell hv) d vs himm hvs)
 refine ⟨fn, tmps, assign, body, hy, hR.mono ?_⟩
 rintro e w' ⟨s, fo', mp', rfl, j1, j2, j3, j4, j5, j6, j7, j8, j9⟩
 refine ⟨_, rfl, { g with fo := fo', wy := w', mp := mp' }, _, .v (.bool (!s)), (show K (.v (.bool (!s))) { st1 with rw := setN st1.rw 0 (.gh s (ys ++ [d])) } by cases s <;> assumption), rfl, ?_, ?_⟩
 ·refine ⟨ht.nb, by simp [setN_eq, ht.nr], ⟨ds, d1, fun D hD => ⟨(d2 D hD).1, (d2 D hD).2.1, ?_⟩, d3, d4⟩, by rw [← ht0.size], fun t => ?_, fun k s' e hk => ?_, ⟨ht.pin.nb, ht.pin.nr, ht.pin.ρ, ht.pin.σ, ht.pin.μ⟩⟩
  ·show fo' D = false
   cases hx : fo' D with
   | false => rfl
   | true =>
    have := (j9 D hx).2
    rw [(hS D).2 (.inr (.inr hD))] at this; cases this
  ·exact rel_mono (Gh.Le.hse g fo' w' mp') _ _ (ht.tm t)
  ·rw [setN_eq, List.getElem?_set] at hk
   split at hk
   ·split at hk <;> cases hk
   ·exact ht.frz k s' e hk
 ·have hmp0 : ∀ b, g.tag b ≠ .imm → g.mp b = false := fun b hb => by
   cases hx : g.mp b with
   | false => rfl
   | true => exact (hb (hm.old false b (hm.hs.mp b hx).1).2).elim
  have hsame : ∀ b, g.tag b ≠ .imm → w'.heap[b]? = w.heap[b]? := fun b hb => j6 b (hSlt b ((hS b).2 (.inl hb))) (hmp0 b hb)
  refine ⟨j3.trans hm.os, j4.trans hm.tape, j5.trans hm.output, Nat.le_trans hm.size j2, fun q b hb => ?_, fun b hb => hm.fresh b (Nat.le_trans j2 hb), fun k b hk => ?_, fun k e' s' els hk => ?_, fun f => ⟨fun b o hb => ?_, (hm.imm f).2⟩, hm.keep, fun b hb => ⟨(hm.np b hb).1, Nat.lt_of_lt_of_le (hm.np b hb).2 j2⟩, ?_⟩
  ·cases q
   ·refine ⟨rfl, ?_⟩
    have h3 := j9 b hb
    have h4 : ¬ S b = true := by rw [h3.2]; simp
    rw [hS] at h4
    exact Classical.byContradiction fun h5 => h4 (.inl h5)
   ·have hb' : frS C g.fo true b = true := hb
    exact ⟨(j6 b (hm.hs.lt true b hb') (hm.hs.nf b hb')).trans (hm.old true b hb').1, (hm.old true b hb').2⟩
  ·obtain ⟨h3, cs, h4, h5⟩ := hm.box k b hk
   exact ⟨h3, cs, (hsame _ (by show g.tag (g.ρ k) ≠ _; rw [h3]; exact fun e => by cases e)).trans h4, rels_mono (Gh.Le.hse g fo' w' mp') _ _ h5⟩
  ·simp only [setN_eq] at hk
   rw [List.getElem?_set] at hk
   split at hk
   ·split at hk <;> cases hk
   ·obtain ⟨h3, h4⟩ := hm.row k e' s' els hk
    exact ⟨h3.keep fun b hb => hsame b (by rw [h4 b hb]; exact fun e => by cases e), h4⟩
  ·have h3 := (hm.imm f).1 b o hb
   refine (j6 b (heap_lt h3) ?_).trans h3
   cases hx : g.mp b with
   | false => rfl
   | true => have := (hm.hs.mp b hx).2 f; rw [hb] at this; cases this
  ·have hmp1 : ∀ f b o, g.μ f b = some o → mp' b = false := fun f b o hb => by
    cases hx : mp' b with
    | false => rfl
    | true =>
     rcases j7 b hx with h3 | h3
     ·have := (hm.hs.mp b h3).2 f; rw [hb] at this; cases this
     ·have := heap_lt ((hm.imm f).1 b o hb); omega
   refine ⟨fun q b hb => ?_, fun b hb => ⟨j8 b hb, fun f => ?_⟩, fun b hb => ?_, fun b hb => ?_, fun k s' ys' hk => ?_, hm.hs.ro, Nat.le_trans hm.hs.sz j2, Nat.le_refl _, j3.trans hm.os, j4.trans hm.tape, j5.trans hm.output⟩
   ·cases q
    ·exact (j9 b hb).1
    ·exact Nat.lt_of_lt_of_le (hm.hs.lt true b hb) j2
   ·cases hx : g.μ f b with
    | none => rfl
    | some o =>
     have hb' : mp' b = true := hb
     rw [hmp1 f b o hx] at hb'; cases hb'
   ·have hb' : frS C g.fo true b = true := hb
    show mp' b = false
    cases hx : mp' b with
    | false => rfl
    | true =>
     rcases j7 b hx with h3 | h3
     ·rw [hm.hs.nf b hb'] at h3; cases h3
     ·have := hm.hs.lt true b hb'; omega
   ·obtain ⟨p1, p2, p3⟩ := hm.hs.lp b hb
    refine ⟨p1, ?_, p3⟩
    show fo' b = false
    cases hx : fo' b with
    | false => rfl
    | true =>
     have := (j9 b hx).2
     rw [(hS b).2 (.inr (.inl hb))] at this; cases this
   ·simp only [setN_eq] at hk
    rw [List.getElem?_set] at hk
    split at hk
    ·split at hk
     ·cases hk; exact j1
     ·cases hk
    ·rename_i hne
     match st1.rw, hone, k, hk with
     | _ :: l, hone, k + 1, hk => exact (noGhB_spec (l := l) (by simpa [tlR] using hone) k s' ys' (by simpa using hk)).elim
     | _ :: l, hone, 0, hk => exact (hne rfl).elim
     | [], hone, k, hk => simp at hk
end

/-! ### contracts of iterators -/
/-- An iterator with these captured values hands out these arguments of yield, in this order, or is told to stop. -/
def ItCtr (P : Program) (f : FuncId) (lb : List SV) (xs : List (List SV)) : Prop :=
 Ent P f ∧ ∀ (w : World) (μ : Mu) (mp : Nat → Bool) (yd : Yd) vs, (∀ f, (μ f).In w) → (∀ f b o, μ f b = some o → mp b = false) → (∀ b, mp b = true → b < w.heap.size) → rels (gMu μ w) lb vs → YdOk P w.heap.size (μ true) yd xs →
  yd.J false [] (fun b => decide (b < w.heap.size)) mp w →
  Calls P f (.func (.yield yd.yl) #[] #[] :: vs).toArray w (fun e w' => (∃ v, e = .returned v) ∧ ∃ s ys fo mp', yd.J s ys fo mp' w' ∧ (s = false → ys = xs))

/-- all has been handed out, or it was told to stop. -/
def endG (xs : List (List SV)) : Option Rw → Prop
 | some (.gh s ys) => s = false → ys = xs
 | _ => False
def finI (xs : List (List SV)) (e : Exit) (st : St) : Prop :=
 match e with
 | .normal => endG xs (nth st.rw 0)
 | .ret => endG xs (nth st.rw 0)
 | _ => False
def ho1 (yd : Yd) (w : World) : Ho := ⟨yd, none, true, some (fun _ => false, w), fun _ => false, 0⟩
def pinI (yd : Yd) (w : World) : Pin := ⟨0, 0, fun _ => 0, fun _ => .nilFunc, mu0, fun _ => false, ho1 yd w⟩

theorem ItCtr.of {P : Program} {T : Tab} (hT : TabOk P T) {f : FuncId} {fn : Func} {body : Code} {lb : List SV} {xs : List (List SV)} (hf : P.funcs[f]? = some fn) (hb : fn.body = some body) (hname : (fn.name == "runtime.NumGoroutine") = false) (hrs : fn.results.toList = [])
  (hd : dstOk fn.ntmps body = true) (hargs : lb.length + 1 ≤ fn.ntmps)
  (h : ∀ w0 kp yd, YdOk P w0.heap.size kp yd xs → runC T ⟨P, w0, fn.ntmps, kp, pinI yd w0, false⟩ body ⟨argI 0 (.v (.func (.yield yd.yl) ⟨[]⟩ ⟨[]⟩) :: lb), [], [.gh false []]⟩ (finI xs) ⟨⟩) : ItCtr P f lb xs := by
 refine ⟨⟨fn, hf, hname, by simp [hb]⟩, fun w μ mp yd vs hμ hmp1 hmp2 hr hok hJ => ?_⟩
 refine callsIn_wide.1 (callsIn_of_wp_marks (F := Fence.wide) (n := 0) hf hb trivial ?_ rfl)
 let C : Cx := ⟨P, w, fn.ntmps, μ true, pinI yd w, false⟩
 let g : Gh := ⟨0, 1, fun _ => 0, fun _ => .nilFunc, fun _ => .imm, μ, fun b => decide (b < w.heap.size), w, mp⟩
 have hT' : TabOk C.P T := hT
 have hvl := rels_length hr
 have hr' : rels g (.v (.func (.yield yd.yl) ⟨[]⟩ ⟨[]⟩) :: lb) (.func (.yield yd.yl) #[] #[] :: vs) := ⟨rfl, rels_mono (g := gMu μ w) (g' := g) ⟨Nat.le_refl _, Nat.zero_le _, fun _ _ => rfl, fun _ _ => rfl, .refl _⟩ _ _ hr⟩
 have hm : Mod C g ⟨argI 0 (.v (.func (.yield yd.yl) ⟨[]⟩ ⟨[]⟩) :: lb), [], [.gh false []]⟩ { tmps := (.func (.yield yd.yl) #[] #[] :: vs).toArray ++ Array.replicate (fn.ntmps - (.func (.yield yd.yl) #[] #[] :: vs).toArray.size) undef, defers := [] } w := by
  refine ⟨⟨rfl, rfl, .nil _ _, by simp [C]; omega, fun t => ?_, fun k s e hk => ?_, ⟨Nat.zero_le _, Nat.zero_le _, fun k hk => absurd hk (Nat.not_lt_zero k), fun k hk => absurd hk (Nat.not_lt_zero k), Mu.le0 _⟩⟩, rfl, rfl, rfl, Nat.le_refl _, fun q b hb => ⟨?_, rfl⟩, fun b _ => rfl, fun k b hk => by simp at hk, fun k e s els hk => ?_, fun f => ⟨hμ f, fun _ _ _ => rfl⟩, fun b o hb => ⟨.inr ⟨o, hb⟩, rfl⟩, fun b hb => (by cases hb),
   ⟨fun q b hb => ?_, fun b hb => ⟨by simpa [g] using hmp2 b hb, fun f => ?_⟩, fun b hb => (by cases hb), fun b hb => (by cases hb), fun k s ys hk => ?_, fun l hl => (by cases hl), Nat.zero_le _, ⟨Nat.le_refl _, rfl, rfl, rfl⟩⟩⟩
  ·refine argI_look (.v (.func (.yield yd.yl) ⟨[]⟩ ⟨[]⟩) :: lb) (.func (.yield yd.yl) #[] #[] :: vs) 0 hr' t _ fun _ hlt => ?_
   simp only [List.length_cons] at hlt
   simp only [Nat.sub_zero]
   rw [List.getElem?_eq_getElem (by simp only [List.length_cons]; omega)]
   have : t < vs.length + 1 := by omega
   simp [Array.getD_eq_getD_getElem?, Array.getElem?_append, this]
  ·match k, hk with
   | 0, hk => simp at hk
   | k + 1, hk => simp at hk
  ·cases q
   ·rfl
   ·cases hb
  ·match k, hk with
   | 0, hk => simp at hk
   | k + 1, hk => simp at hk
  ·cases q
   ·have hb' : g.fo b = true := hb
    simpa [g] using hb'
   ·cases hb
  ·show μ f b = none
   have hb' : mp b = true := hb
   cases hx : μ f b with
   | none => rfl
   | some o => rw [hmp1 f b o hx] at hb'; cases hb'
  ·match k, hk with
   | 0, hk => simp at hk; obtain ⟨rfl, rfl⟩ := hk; exact hJ
   | k + 1, hk => simp at hk
 refine wpIn_mono (code_sound hT' body _ _ hd (h w (μ true) yd hok) g _ w hm) fun e a' w' ⟨g', st', h1, h2⟩ => ?_
 have key : endG xs (nth st'.rw 0) → LeavesInM Fence.wide 0 P fn a'.tmps (fun e w' => (∃ v, e = .returned v) ∧ ∃ s ys fo mp', yd.J s ys fo mp' w' ∧ (s = false → ys = xs)) a'.defers .returning w' := by
  intro he
  obtain ⟨ds, hds1, hds2, hds3, _⟩ := h2.tm.defers
  rw [hds1]
  have h3 : Mod C (g'.close ds) st' { a' with defers := [] } (closeW ds w') := h2.close hds2 (fun D hD => rfl) rfl
  refine leaves_marks ds w' (fun D hD => (h2.mem.imm false).1 D _ (hds2 D hD).1) hds3 ?_
  generalize closeW ds w' = w'' at h3
  generalize g'.close ds = g'' at h3
  have hres := results_run (fn := fn) (a := a') (w := w'') (us := []) (P := P) (by rw [hrs]; rfl)
  refine ⟨_, hres, ⟨_, rfl⟩, ?_⟩
  unfold endG at he
  split at he
  ·rename_i s ys hk
   refine ⟨s, ys, g''.fo, g''.mp, ?_, he⟩
   have hj := h3.mem.hs.jj 0 s ys (by rw [← nth_eq]; exact hk)
   have hwy := h3.mem.hs.wy
   exact hok.frame _ _ _ _ _ w'' _ hj (fun b hb => (h3.mem.old false b hb).1) hwy.1 (h3.mem.os.trans hwy.2.1.symm) (h3.mem.tape.trans hwy.2.2.1.symm) (h3.mem.output.trans hwy.2.2.2.symm) (fun _ hb => hb)
  ·exact he.elim
 cases e with
 | normal => exact key h1
 | ret => exact key h1
 | exit _ => exact h1.elim
 | goto _ => exact h1.elim
 | panic _ => exact h1.elim
 | outgrown => exact h1.elim

/-! ### a loop over an iterator -/
theorem Mod.frame {C : Cx} {g : Gh} {st : St} {a : Act} {w w' : World} (hm : Mod C g st a w) (hs : w.heap.size ≤ w'.heap.size) (h1 : w'.os = w.os) (h2 : w'.tape = w.tape) (h3 : w'.output = w.output)
  (hb : ∀ b, (g.tag b ≠ .imm ∨ (∃ f o, g.μ f b = some o) ∨ ∃ q, frS C g.fo q b = true) → w'.heap[b]? = w.heap[b]?) : Mod C g st a w' := by
 refine ⟨hm.tm, h1.trans hm.mem.os, h2.trans hm.mem.tape, h3.trans hm.mem.output, Nat.le_trans hm.mem.size hs, fun q b h => ⟨(hb b (.inr (.inr ⟨q, h⟩))).trans (hm.mem.old q b h).1, (hm.mem.old q b h).2⟩, fun b h => hm.mem.fresh b (Nat.le_trans hs h), fun k b hk => ?_, fun k e s els hk => ?_, fun f => ⟨fun b o h => (hb b (.inr (.inl ⟨f, o, h⟩))).trans ((hm.mem.imm f).1 b o h), (hm.mem.imm f).2⟩, hm.mem.keep, fun b h => ⟨(hm.mem.np b h).1, Nat.lt_of_lt_of_le (hm.mem.np b h).2 hs⟩, hm.mem.hs.same hs rfl⟩
 ·obtain ⟨h4, cs, h5, h6⟩ := hm.mem.box k b hk
  exact ⟨h4, cs, (hb _ (.inl (by rw [h4]; exact fun e => by cases e))).trans h5, h6⟩
 ·obtain ⟨h4, h5⟩ := hm.mem.row k e s els hk
  exact ⟨h4.keep fun b h => hb b (.inl (by rw [h5 b h]; exact fun e => by cases e)), h5⟩

def dropB (X : Nat → Bool) (μ : Hp) : Hp := fun b => if X b = true then none else μ b
theorem dropB_some {X : Nat → Bool} {μ : Hp} {b : Nat} {o : Obj} (h : dropB X μ b = some o) : X b = false ∧ μ b = some o := by
 unfold dropB at h
 split at h
 ·cases h
 ·rename_i hx; exact ⟨by simpa using hx, h⟩
def Gh.drop (g : Gh) (X : Nat → Bool) : Gh := { g with μ := fun f => dropB X (g.μ f) }

/-- what no code may look into turns. -/
theorem Mod.poke {P : Program} {w0 : World} {N : Nat} {kp : Hp} {nb nr : Nat} {ρ : Nat → Nat} {σ : Nat → Value} {μp : Mu} {np : Nat → Bool} {yd : Yd} {ro : Option Nat} {mks : Bool} {s : Nat → Bool} {wx : World} {lp : Nat → Bool} {sz : Nat} {g : Gh} {st : St} {a : Act} {w : World}
  (hm : Mod ⟨P, w0, N, kp, ⟨nb, nr, ρ, σ, μp, np, ⟨yd, ro, mks, some (s, wx), lp, sz⟩⟩, false⟩ g st a w) (X : Nat → Bool) (hX : ∀ b, X b = true → lp b = true) (hp : ∀ f b, X b = true → μp f b = none) (hds : ∀ D, a.defers ≠ [] → g.μ false D = some (.deferred (some [])) → markOf D ∈ a.defers → X D = false)
  {w₂ : World} (hsz : w₂.heap.size = w.heap.size) (h1 : w₂.os = w.os) (h2 : w₂.tape = w.tape) (h3 : w₂.output = w.output) (hh : ∀ b, X b = false → w₂.heap[b]? = w.heap[b]?) (hro : ∀ l, ro = some l → ∃ r, w₂.heap[l]? = some (.loop r)) :
  Mod ⟨P, w0, N, kp, ⟨nb, nr, ρ, σ, μp, np, ⟨yd, ro, mks, some (s, w₂), lp, sz⟩⟩, false⟩ (g.drop X) st a w₂ := by
 have hlp := hm.mem.hs.lp
 have hXs : ∀ b, X b = true → s b = true ∧ g.fo b = false ∧ g.tag b = .imm := fun b hb => by
  obtain ⟨p1, p2, p3⟩ := hlp b (hX b hb)
  exact ⟨p1, p2, (hm.mem.old true b p1).2⟩
 have hXt : ∀ b, g.tag b ≠ .imm → X b = false := fun b hb => by
  cases hx : X b with
  | false => rfl
  | true => exact (hb (hXs b hx).2.2).elim
 have hC : g.μ.LeC (g.drop X).μ := fun f ad v hv => by
  obtain ⟨o, ho⟩ := Hp.cell_block hv
  have hx : X ad.block = false := by
   cases hx : X ad.block with
   | false => rfl
   | true =>
    have := (hlp _ (hX _ hx)).2.2 f o ho
    unfold Hp.cell at hv
    rw [ho] at hv
    cases o <;> simp_all [Obj.isCells]
  show (dropB X (g.μ f)).cell ad = _
  unfold Hp.cell at hv ⊢
  have : dropB X (g.μ f) ad.block = g.μ f ad.block := by unfold dropB; simp [hx]
  rw [this]; exact hv
 obtain ⟨ds, d1, d2, d3, d4⟩ := hm.tm.defers
 refine ⟨⟨hm.tm.nb, hm.tm.nr, ⟨ds, d1, fun D hD => ⟨?_, (d2 D hD).2⟩, d3, d4⟩, hm.tm.size, fun t => rel_monoC hC _ _ (hm.tm.tm t), fun k s e hk => (hm.tm.frz k s e hk).monoC hC, hm.tm.pin.nb, hm.tm.pin.nr, hm.tm.pin.ρ, hm.tm.pin.σ, fun f b o hb => ?_⟩,
  h1.trans hm.mem.os, h2.trans hm.mem.tape, h3.trans hm.mem.output, by rw [hsz]; exact hm.mem.size, fun q b hb => ?_, fun b hb => hm.mem.fresh b (by rw [← hsz]; exact hb), fun k b hk => ?_, fun k e s els hk => ?_, fun f => ⟨fun b o hb => ?_, fun b o hb => (hm.mem.imm f).2 b o (dropB_some hb).2⟩, fun b o hb => hm.mem.keep b o (dropB_some hb).2, fun b hb => ⟨(hm.mem.np b hb).1, by rw [hsz]; exact (hm.mem.np b hb).2⟩,
  ⟨fun q b hb => ?_, fun b hb => ⟨(hm.mem.hs.mp b hb).1, fun f => ?_⟩, fun b hb => hm.mem.hs.nf b hb, fun b hb => ⟨(hlp b hb).1, (hlp b hb).2.1, fun f o ho => (hlp b hb).2.2 f o (dropB_some ho).2⟩, hm.mem.hs.jj, fun l hl => ⟨(hm.mem.hs.ro l hl).1, hro l hl⟩, by rw [hsz]; exact hm.mem.hs.sz, by rw [hsz]; exact hm.mem.hs.wy⟩⟩
 ·have hx := hds D (by rw [d1]; intro e; simp at e; subst e; cases hD) (d2 D hD).1 (by rw [d1]; exact List.mem_map_of_mem hD)
  show dropB X (g.μ false) D = _
  unfold dropB; simp [hx, (d2 D hD).1]
 ·have hx : X b = false := by
   cases hx : X b with
   | false => rfl
   | true => have h4 : μp f b = some o := hb; rw [hp f b hx] at h4; cases h4
  show dropB X (g.μ f) b = _
  unfold dropB
  simp only [hx, Bool.false_eq_true, if_false]
  exact hm.tm.pin.μ f b o hb
 ·cases q
  ·have hx : X b = false := by
    cases hx : X b with
    | false => rfl
    | true => have h4 : g.fo b = true := hb; rw [(hXs b hx).2.1] at h4; cases h4
   exact ⟨(hh b hx).trans (hm.mem.old false b hb).1, (hm.mem.old false b hb).2⟩
  ·exact ⟨rfl, (hm.mem.old true b hb).2⟩
 ·obtain ⟨h4, cs, h5, h6⟩ := hm.mem.box k b hk
  exact ⟨h4, cs, (hh _ (hXt _ (by show g.tag (g.ρ k) ≠ _; rw [h4]; exact fun e => by cases e))).trans h5, rels_monoC hC _ _ h6⟩
 ·obtain ⟨h4, h5⟩ := hm.mem.row k e s els hk
  exact ⟨(h4.monoC hC).keep fun b hb => hh b (hXt b (by have := h5 b hb; rw [this]; exact fun e => by cases e)), h5⟩
 ·obtain ⟨hx, h4⟩ := dropB_some hb
  exact (hh b hx).trans ((hm.mem.imm f).1 b o h4)
 ·rw [hsz]
  cases q
  ·exact hm.mem.hs.lt false b hb
  ·exact hm.mem.hs.lt true b hb
 ·cases hx : (g.drop X).μ f b with
  | none => rfl
  | some o => have := (hm.mem.hs.mp b hb).2 f; rw [(dropB_some hx).2] at this; cases this

def setPs : List Nat → List SV → List (Nat × SV) → List (Nat × SV)
 | p :: ps, x :: xs, tm => setPs ps xs ((p, x) :: tm)
 | _, _, tm => tm
theorem setPs_ok {g : Gh} : ∀ (ps : List Nat) (d : List SV) (vs : List Value) (tm : List (Nat × SV)) (ts : Array Value), rels g d vs → (∀ t, rel g (look tm t) (ts.getD t undef)) → (∀ p ∈ ps, p < ts.size) →
  (∀ t, rel g (look (setPs ps d tm) t) (((ps.zip vs).foldl (fun (t : Array Value) (x : Nat × Value) => t.setIfInBounds x.1 x.2) ts).getD t undef)) ∧ ((ps.zip vs).foldl (fun (t : Array Value) (x : Nat × Value) => t.setIfInBounds x.1 x.2) ts).size = ts.size
 | [], _, _, _, _, _, h, _ => ⟨h, rfl⟩
 | _ :: _, [], [], _, _, _, h, _ => ⟨h, rfl⟩
 | p :: ps, x :: d, v :: vs, tm, ts, hr, h, hp => by
  obtain ⟨h1, h2⟩ := setPs_ok ps d vs ((p, x) :: tm) (ts.setIfInBounds p v) hr.2 (fun t => by
   simp only [look]
   split
   ·rename_i e; subst e
    have : p < ts.size := hp p (by simp)
    simpa [Array.getD_eq_getD_getElem?, Array.getElem?_setIfInBounds, this] using hr.1
   ·rename_i e
    have := h t
    simpa only [Array.getD_eq_getD_getElem?, Array.getElem?_setIfInBounds, e, if_false] using this) (fun q hq => by simpa using hp q (by simp [hq]))
  exact ⟨h1, h2.trans (by simp)⟩
 | _ :: _, _ :: _, [], _, _, hr, _, _ => hr.elim
 | _ :: _, [], _ :: _, _, _, hr, _, _ => hr.elim

/-- the end of a round. -/
def rdK (C : Cx) (J : Prop) (tm0 : List (Nat × SV)) (bx : List (Option Bx)) (rw : List Rw) (K : Exit → St → Prop) (e : Exit) (st : St) : Prop :=
 match e with
 | .normal => J ∧ leA C ⟨tm0, st.bx, st.rw⟩ ⟨tm0, bx, rw⟩
 | .ret => K .ret ⟨tm0, st.bx, st.rw⟩
 | .exit i => K (.exit i) ⟨tm0, st.bx, st.rw⟩
 | _ => False
/-- behind the assignments to the loop's left sides. -/
def asK (T : Tab) (P : Program) (w0 : World) (N : Nat) (kp : Hp) (pin : Pin) (c : Code) (K : Exit → St → Prop) (e : Exit) (st : St) : Prop :=
 match e with
 | .normal => ∀ fr, runC T ⟨P, w0, N, kp, ⟨pin.nb, pin.nr, pin.ρ, pin.σ, pin.μ, pin.np, ⟨pin.ho.yd, pin.ho.ro, false, some fr, pin.ho.lp, pin.ho.sz⟩⟩, false⟩ c st K ⟨⟩
 | _ => False

/-- the loop's record is laid. -/
theorem enter_loop {P : Program} {w : World} {ro : Option Nat} {mks : Bool} (hmk : ro = none → mks = true) (hro : ∀ l, ro = some l → ∃ r, w.heap[l]? = some (.loop r)) (fn : FuncId) (tmps : Array Value) (ps : Array Tmp) (assign body : Code) :
  ∃ (l Dd : Nat) (ms : List Nat) (w1 : World), (Instr.enterLoop fn tmps ps assign body ro).run P w = .ok (l, ms.map markOf) w1 ∧ w.heap.size ≤ l ∧ l < w1.heap.size ∧ Below w.heap.size w w1 ∧
   w1.heap[l]? = some (.loop { state := .ready, pending := none, fn, tmps, params := ps, assign, body, defers := Dd }) ∧ (∀ D ∈ ms, w.heap.size ≤ D ∧ D ≠ l ∧ w1.heap[D]? = some (.deferred (some []))) ∧ ms.Nodup ∧ (mks = false → ms = []) := by
 cases ro with
 | none =>
  refine ⟨w.heap.size + 1, w.heap.size, [w.heap.size], _, run_enterLoop_outer _ _ _ _ _, by omega, by simp, ((Below.refl _ _).alloc (Nat.le_refl _) _).alloc (by simp) _, ?_, fun D hD => ?_, by simp, fun h => by rw [hmk rfl] at h; cases h⟩
  ·have := heap_alloc_new (w.alloc (.deferred (some []))) (.loop { state := .ready, pending := none, fn, tmps, params := ps, assign, body, defers := w.heap.size })
   simpa using this
  ·simp only [List.mem_singleton] at hD; subst hD
   refine ⟨Nat.le_refl _, by omega, ?_⟩
   refine (Below.heap_alloc (w.alloc (.deferred (some []))) _ w.heap.size (by simp)).trans ?_
   exact heap_alloc_new w _
 | some l0 =>
  obtain ⟨r, hr⟩ := hro l0 rfl
  exact ⟨w.heap.size, r.defers, [], _, run_enterLoop_inner hr _ _ _ _ _, Nat.le_refl _, by simp, (Below.refl _ _).alloc (Nat.le_refl _) _, heap_alloc_new w _, by simp, .nil, fun _ => rfl⟩
end Go.Vx
