/-
 Iterators that own the box that they capture; loops over them, whose rounds know that what stood at the beginning stands.
-/
import Derived.Test.YtgcmppghjfidfaaGreatDoorVIt3
namespace Go.Vx
open Go Go.RowKit
set_option linter.unusedSimpArgs false
set_option linter.unusedVariables false
def gBx (μ : Mu) (w : World) (b0 : Nat) : Gh := { gMu μ w with nb := 1, ρ := fun _ => b0 }
def ItCtrB (P : Program) (f : FuncId) (ty : TypeId) (cells : List SV) (lb : List SV) (xs : List (List SV)) : Prop :=
 Ent P f ∧ ∀ (w : World) (μ : Mu) (mp : Nat → Bool) (yd : Yd) (b0 : Nat) (cs : Array Value) (vs : List Value), (∀ f, (μ f).In w) → (∀ f b o, μ f b = some o → mp b = false) → (∀ b, mp b = true → b < w.heap.size) → w.heap[b0]? = some (.cells cs ty (0, 0)) → rels (gMu μ w) cells cs.toList → rels (gBx μ w b0) lb vs → mp b0 = false → (∀ f, μ f b0 = none) → YdOk P w.heap.size (μ true) yd xs →
  yd.J false [] (fun b => decide (b < w.heap.size) && !(b == b0)) mp w →
  Calls P f (.func (.yield yd.yl) #[] #[] :: vs).toArray w (fun e w' => (∃ v, e = .returned v) ∧ ∃ s ys fo mp', yd.J s ys fo mp' w' ∧ (s = false → ys = xs))
/-- what is captured, as the iterator sees it: its own box is number 0. -/
def subB (k : Nat) : SV → SV
 | .box j o => if j = k then .box 0 o else .any
 | x => if immV x = true then x else .any
theorem subB_ok {g : Gh} {μ : Mu} {w : World} {k : Nat} (hμ : g.μ.LeC μ) {v : SV} {u : Value} (h : rel g v u) : rel (gBx μ w (g.ρ k)) (subB k v) u := by
 have key : ∀ x : SV, rel g x u → rel (gBx μ w (g.ρ k)) (if immV x = true then x else .any) u := fun x hx => by
  split
  ·rename_i hi; exact rel_imm (g' := gBx μ w (g.ρ k)) hμ x u hi hx
  ·trivial
 cases v with
 | box j o =>
  simp only [subB]
  split
  ·rename_i e; subst e; exact ⟨h.1, Nat.zero_lt_one⟩
  ·trivial
 | _ => exact key _ h
theorem subBs_ok {g : Gh} {μ : Mu} {w : World} {k : Nat} (hμ : g.μ.LeC μ) : ∀ {l : List SV} {us : List Value}, rels g l us → rels (gBx μ w (g.ρ k)) (l.map (subB k)) us
 | [], [], _ => trivial
 | _ :: _, _ :: _, h => ⟨subB_ok hμ h.1, subBs_ok hμ h.2⟩
 | [], _ :: _, h => h.elim
 | _ :: _, [], h => h.elim
theorem ItCtrB.of {P : Program} {T : Tab} (hT : TabOk P T) {f : FuncId} {fn : Func} {body : Code} {ty : TypeId} {cells lb : List SV} {xs : List (List SV)} (hf : P.funcs[f]? = some fn) (hb : fn.body = some body) (hname : (fn.name == "runtime.NumGoroutine") = false) (hrs : fn.results.toList = [])
  (hd : dstOk fn.ntmps body = true) (hargs : lb.length + 1 ≤ fn.ntmps)
  (h : ∀ w0 kp yd, YdOk P w0.heap.size kp yd xs → runC T ⟨P, w0, fn.ntmps, kp, pinI yd w0, false⟩ body ⟨argI 0 (.v (.func (.yield yd.yl) ⟨[]⟩ ⟨[]⟩) :: lb), [some ⟨ty, cells⟩], [.gh false []]⟩ (finI xs) ⟨⟩) : ItCtrB P f ty cells lb xs := by
 refine ⟨⟨fn, hf, hname, by simp [hb]⟩, fun w μ mp yd b0 cs vs hμ hmp1 hmp2 hb0 hr hlb hmb hμb hok hJ => ?_⟩
 refine callsIn_wide.1 (callsIn_of_wp_marks (F := Fence.wide) (n := 0) hf hb trivial ?_ rfl)
 let C : Cx := ⟨P, w, fn.ntmps, μ true, pinI yd w, false⟩
 let g : Gh := ⟨1, 1, fun _ => b0, fun _ => .nilFunc, fun b => if b = b0 then .box 0 else .imm, μ, fun b => decide (b < w.heap.size) && !(b == b0), w, mp⟩
 have hlt := heap_lt hb0
 have htg : ∀ b, b ≠ b0 → g.tag b = .imm := fun b hb => by simp [g, hb]
 have hfo : ∀ b, g.fo b = true ↔ b < w.heap.size ∧ b ≠ b0 := fun b => by simp [g]
 have hT' : TabOk C.P T := hT
 have hvl := rels_length hlb
 have hr' : rels g (.v (.func (.yield yd.yl) ⟨[]⟩ ⟨[]⟩) :: lb) (.func (.yield yd.yl) #[] #[] :: vs) := ⟨rfl, rels_mono (g := gBx μ w b0) (g' := g) ⟨Nat.le_refl _, Nat.zero_le _, fun _ _ => rfl, fun _ _ => rfl, .refl _⟩ _ _ hlb⟩
 have hm : Mod C g ⟨argI 0 (.v (.func (.yield yd.yl) ⟨[]⟩ ⟨[]⟩) :: lb), [some ⟨ty, cells⟩], [.gh false []]⟩ { tmps := (.func (.yield yd.yl) #[] #[] :: vs).toArray ++ Array.replicate (fn.ntmps - (.func (.yield yd.yl) #[] #[] :: vs).toArray.size) undef, defers := [] } w := by
  refine ⟨⟨rfl, rfl, .nil _ _, by simp [C]; omega, fun t => ?_, fun k s e hk => ?_, ⟨Nat.zero_le _, Nat.zero_le _, fun k hk => absurd hk (Nat.not_lt_zero k), fun k hk => absurd hk (Nat.not_lt_zero k), Mu.le0 _⟩⟩, rfl, rfl, rfl, Nat.le_refl _, fun q b hb => ?_, fun b hb => htg b (fun e => by omega), fun k b hk => ?_, fun k e s els hk => ?_, fun f => ⟨hμ f, fun b o ho => htg b (fun e => by have ho : μ f b = some o := ho; rw [e, hμb f] at ho; cases ho)⟩, fun b o hb => ⟨.inr ⟨o, hb⟩, rfl⟩, fun b hb => (by cases hb),
   ⟨fun q b hb => ?_, fun b hb => ⟨(hfo b).2 ⟨hmp2 b hb, fun e => by subst e; rw [show mp b = true from hb] at hmb; cases hmb⟩, fun f => ?_⟩, fun b hb => (by cases hb), fun b hb => (by cases hb), fun k s ys hk => ?_, fun l hl => (by cases hl), Nat.zero_le _, ⟨Nat.le_refl _, rfl, rfl, rfl⟩⟩⟩
  ·refine argI_look (.v (.func (.yield yd.yl) ⟨[]⟩ ⟨[]⟩) :: lb) (.func (.yield yd.yl) #[] #[] :: vs) 0 hr' t _ fun _ hlt => ?_
   simp only [List.length_cons] at hlt
   simp only [Nat.sub_zero]
   rw [List.getElem?_eq_getElem (by simp only [List.length_cons]; omega)]
   have : t < vs.length + 1 := by omega
   simp [Array.getD_eq_getD_getElem?, Array.getElem?_append, this]
  ·match k, hk with
   | 0, hk => simp at hk
   | k + 1, hk => simp at hk
  ·cases q
   ·exact ⟨rfl, htg b ((hfo b).1 hb).2⟩
   ·cases hb
  ·match k, hk with
   | 0, hk =>
    simp at hk; subst hk
    exact ⟨by simp [g], cs, hb0, rels_mono (g := gMu μ w) (g' := g) ⟨Nat.zero_le _, Nat.zero_le _, fun _ h => absurd h (Nat.not_lt_zero _), fun _ h => absurd h (Nat.not_lt_zero _), .refl _⟩ _ _ hr⟩
   | k + 1, hk => simp at hk
  ·match k, hk with
   | 0, hk => simp at hk
   | k + 1, hk => simp at hk
  ·cases q
   ·exact ((hfo b).1 hb).1
   ·cases hb
  ·show μ f b = none
   have hb' : mp b = true := hb
   cases hx : μ f b with
   | none => rfl
   | some o => rw [hmp1 f b o hx] at hb'; cases hb'
  ·match k, hk with
   | 0, hk => simp at hk; obtain ⟨rfl, rfl⟩ := hk; exact hJ
   | k + 1, hk => simp at hk
 refine wpIn_mono (code_sound hT' body _ _ hd (h w (μ true) yd hok) g _ w hm) fun e a' w' ⟨g', st', h1, h2⟩ => ?_
 have key : endG xs (nth st'.rw 0) → LeavesInM Fence.wide 0 P fn a'.tmps (fun e w' => (∃ v, e = .returned v) ∧ ∃ s ys fo mp', yd.J s ys fo mp' w' ∧ (s = false → ys = xs)) a'.defers .returning w' := by
  intro he
  obtain ⟨ds, hds1, hds2, hds3, _⟩ := h2.tm.defers
  rw [hds1]
  have h3 : Mod C (g'.close ds) st' { a' with defers := [] } (closeW ds w') := h2.close hds2 (fun D hD => rfl) rfl
  refine leaves_marks ds w' (fun D hD => (h2.mem.imm false).1 D _ (hds2 D hD).1) hds3 ?_
  generalize closeW ds w' = w'' at h3
  generalize g'.close ds = g'' at h3
  have hres := results_run (fn := fn) (a := a') (w := w'') (us := []) (P := P) (by rw [hrs]; rfl)
  refine ⟨_, hres, ⟨_, rfl⟩, ?_⟩
  unfold endG at he
  split at he
  ·rename_i s ys hk
   refine ⟨s, ys, g''.fo, g''.mp, ?_, he⟩
   have hj := h3.mem.hs.jj 0 s ys (by rw [← nth_eq]; exact hk)
   have hwy := h3.mem.hs.wy
   exact hok.frame _ _ _ _ _ w'' _ hj (fun b hb => (h3.mem.old false b hb).1) hwy.1 (h3.mem.os.trans hwy.2.1.symm) (h3.mem.tape.trans hwy.2.2.1.symm) (h3.mem.output.trans hwy.2.2.2.symm) (fun _ hb => hb)
  ·exact he.elim
 cases e with
 | normal => exact key h1
 | ret => exact key h1
 | exit _ => exact h1.elim
 | goto _ => exact h1.elim
 | panic _ => exact h1.elim
 | outgrown => exact h1.elim


section
variable {P : Program} {T : Tab} {w0 : World} {N : Nat} {kp : Hp} {pin : Pin}
theorem RangeW.itB (hn0 : pin.ho.fr = none) (hT : TabOk P T) (hnp : ∀ b, pin.np b = false) (hmk : pin.ho.ro = none → pin.ho.mks = true) {f : Operand} {ps : List Nat} {as c : Code} {st : St} {K : Exit → St → Prop} {fi : FuncId} {k : Nat} {ty : TypeId} {cells lb lb' : List SV} {xs : List (List SV)} (it : ItCtrB P fi ty cells lb xs)
  (tm0 : List (Nat × SV)) (bx0 : List (Option Bx)) (B : List (List SV) → List (Option Bx)) (R : List (List SV) → List Rw) (J : List (List SV) → Prop) (hJ0' : J []) (h0 : leA ⟨P, w0, N, kp, pin, false⟩ st ⟨tm0, bx0, R []⟩) (hf : (⟨tm0, bx0, R []⟩ : St).ev f = .clo fi lb') (hlb : lb'.map (subB k) = lb) (hkb : nth bx0 k = some (some ⟨ty, cells⟩)) (hB0 : B [] = setN bx0 k none) (himm : immVL cells = true) (hlen : ∀ d ∈ xs, d.length = ps.length)
  (hround : ∀ pre d, (pre ++ [d]) <+: xs → J pre → ∀ ρ σ μ ho', ho'.yd = pin.ho.yd → ho'.ro.isSome = true → runC T ⟨P, w0, N, kp, ⟨(B pre).length, (R pre).length, ρ, σ, μ, pin.np, ho'⟩, false⟩ as ⟨setPs ps d tm0, B pre, R pre⟩
   (asKF T P w0 N kp ⟨(B pre).length, (R pre).length, ρ, σ, μ, pin.np, ho'⟩ (fun fr => ∀ b, b < w0.heap.size → fr.1 b = true ∧ fr.2.heap[b]? = w0.heap[b]?) c (rdK ⟨P, w0, N, kp, pin, false⟩ (J (pre ++ [d])) tm0 (B (pre ++ [d])) (R (pre ++ [d])) K)) ⟨⟩)
  (hdone : J xs → K .normal ⟨tm0, B xs, R xs⟩) : RangeW ⟨P, w0, N, kp, pin, false⟩ f ps as c st K ⟨⟩ := fun hd g a w hm => by
 simp only [dstOk, Bool.and_eq_true] at hd
 obtain ⟨⟨hpsN, hdas⟩, hdc⟩ := hd
 have hpsN : ∀ p ∈ ps, p < N := fun p hp => by simpa using List.all_eq_true.1 hpsN p hp
 obtain ⟨g00, hm00⟩ := StLe.auto h0 g a w hm
 have hev := rel_ev hm00.tm f
 rw [hf] at hev
 obtain ⟨cs, hev, hcs⟩ := hev
 rw [nth_eq] at hkb
 rw [setN_eq] at hB0
 obtain ⟨htb, bcs, hbc, hbr⟩ := hm00.mem.box _ _ hkb
 obtain ⟨b0, hb0⟩ : ∃ b0, b0 = g00.ρ k := ⟨_, rfl⟩
 rw [← hb0] at htb hbc
 have hbμ : ∀ f, g00.μ f b0 = none := fun f => by
  cases hx : g00.μ f b0 with
  | none => rfl
  | some o => have := (hm00.mem.imm f).2 b0 o hx; rw [htb] at this; cases this
 have hbfr : ∀ q, frS ⟨P, w0, N, kp, pin, false⟩ g00.fo q b0 = false := fun q => by
  cases hx : frS ⟨P, w0, N, kp, pin, false⟩ g00.fo q b0 with
  | false => rfl
  | true => have := (hm00.mem.old q b0 hx).2; rw [htb] at this; cases this
 -- the box is the iterator's
 let g0 : Gh := { g00 with tag := fun b => if b = b0 then .imm else g00.tag b }
 have hle00 : g00.Le g0 := ⟨Nat.le_refl _, Nat.le_refl _, fun _ _ => rfl, fun _ _ => rfl, .refl _⟩
 have htne : ∀ b, b ≠ b0 → g0.tag b = g00.tag b := fun b hb => by simp [g0, hb]
 have htim : ∀ b, g00.tag b = .imm → g0.tag b = .imm := fun b hb => by simp only [g0]; split; rfl; exact hb
 have hm0 : Mod ⟨P, w0, N, kp, pin, false⟩ g0 ⟨tm0, B [], R []⟩ a w := by
  rw [hB0]
  refine ⟨⟨by simpa using hm00.tm.nb, hm00.tm.nr, hm00.tm.defers, hm00.tm.size, fun t => rel_mono hle00 _ _ (hm00.tm.tm t), hm00.tm.frz, hm00.tm.pin.mono hle00⟩, hm00.mem.os, hm00.mem.tape, hm00.mem.output, hm00.mem.size, fun q b hb => ⟨(hm00.mem.old q b hb).1, htim b (hm00.mem.old q b hb).2⟩, fun b hb => htim b (hm00.mem.fresh b hb), fun k' b hk => ?_, fun k' e s els hk => ?_, fun f => ⟨(hm00.mem.imm f).1, fun b o ho => htim b ((hm00.mem.imm f).2 b o ho)⟩, hm00.mem.keep, fun b hb => ⟨htim b (hm00.mem.np b hb).1, (hm00.mem.np b hb).2⟩, ⟨hm00.mem.hs.lt, hm00.mem.hs.mp, hm00.mem.hs.nf, hm00.mem.hs.lp, hm00.mem.hs.jj, hm00.mem.hs.ro, hm00.mem.hs.sz, hm00.mem.hs.wy⟩⟩
  ·simp only [List.getElem?_set] at hk
   split at hk
   ·split at hk <;> cases hk
   ·rename_i hne
    obtain ⟨h4, cs', h5, h6⟩ := hm00.mem.box _ _ hk
    refine ⟨(htne _ fun e => ?_).trans h4, cs', h5, rels_mono hle00 _ _ h6⟩
    have e : g00.ρ k' = b0 := e
    rw [e, htb] at h4; cases h4; exact hne rfl
  ·obtain ⟨h4, h5⟩ := hm00.mem.row _ _ _ _ hk
   refine ⟨h4, fun b hb => (htne b fun e => ?_).trans (h5 b hb)⟩
   have := h5 b hb
   rw [e, htb] at this; cases this
 let C : Cx := ⟨P, w0, N, kp, pin, false⟩
 refine wpIn_rangeFunc fun fn hfn => ?_
 have hro : ∀ l, pin.ho.ro = some l → ∃ r, w.heap[l]? = some (.loop r) := fun l hl => by
  obtain ⟨h1, r, h2⟩ := hm0.mem.hs.ro l hl
  exact ⟨r, (hm0.mem.old true l h1).1.trans h2⟩
 obtain ⟨l, Dd, ms, w1, he, hl1, hl2, hbel, hl3, hms, hnd, hmk2⟩ := enter_loop (P := P) (w := w) (ro := pin.ho.ro) (mks := pin.ho.mks) hmk hro fn a.tmps ps.toArray as c
 obtain ⟨fu, e1, e2, e3⟩ := it.1
 have eg : ∀ args (w : World), (callFunc fi args).run P w = .ok (.enter fi args) w := fun args w => by
  simp only [callFunc, Sem.run_bind, run_program, Result.andThen_ok, e1, e2, e3]
  simp
 let am : Act := { a with defers := ms.map markOf ++ a.defers }
 let rc : LoopState → Option Code → Loop := fun st pe => { state := st, pending := pe, fn, tmps := am.tmps, params := ps.toArray, assign := as, body := c, defers := Dd }
 -- the ghost behind the head
 have hE := hm0.mem.ext hbel
 let g1 : Gh := { g0 with μ := fun f => if f = true then g0.μ true else fun b => if b ∈ ms then some (.deferred (some [])) else g0.μ false b }
 have hμlt : ∀ f b o, g0.μ f b = some o → b < w.heap.size := fun f b o h => heap_lt ((hm0.mem.imm f).1 b o h)
 have hle : g0.Le g1 := ⟨Nat.le_refl _, Nat.le_refl _, fun _ _ => rfl, fun _ _ => rfl, fun f b o h => by
  cases f
  ·have : b ∉ ms := fun hb => by have := (hms b hb).1; have := hμlt false b o h; omega
   show (if b ∈ ms then _ else _) = _
   rw [if_neg this]; exact h
  ·exact h⟩
 have hg1 : ∀ f b o, g1.μ f b = some o → g0.μ f b = some o ∨ (b ∈ ms ∧ f = false ∧ o = .deferred (some [])) := fun f b o h => by
  cases f
  ·have h : (if b ∈ ms then some (.deferred (some [])) else g0.μ false b) = some o := h
   split at h
   ·cases h; exact .inr ⟨by assumption, rfl, rfl⟩
   ·exact .inl h
  ·exact .inl h
 obtain ⟨ds, d1, d2, d3, d4⟩ := hm0.tm.defers
 have hm1 : Mod C g1 ⟨tm0, B [], R []⟩ am w1 := by
  have hpin := hm0.tm.pin.mono hle
  refine ⟨⟨hm0.tm.nb, hm0.tm.nr, ⟨ms ++ ds, by simp [am, d1], fun D hD => ?_, ?_, fun h => by rw [hmk2 h, d4 h]; rfl⟩, hm0.tm.size, fun t => rel_mono hle _ _ (hm0.tm.tm t), fun k s e hk => (hm0.tm.frz k s e hk).mono hle.μ, hpin⟩,
   hE.os, hE.tape, hE.output, hE.size, hE.old, hE.fresh, fun k b hk => ?_, fun k e s els hk => ?_, fun f => ⟨fun b o hb => ?_, fun b o hb => ?_⟩, hE.keep, hE.np, hE.hs.next rfl rfl rfl (Nat.le_refl _) (fun f b o hb => ?_) fun k s ys hk => ⟨k, hk⟩⟩
  ·rcases List.mem_append.1 hD with hD | hD
   ·refine ⟨by show (if D ∈ ms then _ else _) = _; rw [if_pos hD], Nat.le_trans hm0.mem.size (hms D hD).1, ?_⟩
    show g0.fo D = false
    cases hx : g0.fo D with
    | false => rfl
    | true => have := hm0.mem.hs.lt false D hx; have := (hms D hD).1; omega
   ·exact ⟨hle.μ false _ _ (d2 D hD).1, (d2 D hD).2⟩
  ·rw [List.nodup_append]
   refine ⟨hnd, d3, fun x hx y hy e => ?_⟩
   subst e
   have := (hms x hx).1
   have := hμlt false x _ (d2 x hy).1
   omega
  ·obtain ⟨h4, cs, h5, h6⟩ := hE.box k b hk
   exact ⟨h4, cs, h5, rels_mono hle _ _ h6⟩
  ·obtain ⟨h4, h5⟩ := hE.row k e s els hk
   exact ⟨h4.mono hle.μ, h5⟩
  ·rcases hg1 f b o hb with h | ⟨h, rfl, rfl⟩
   ·exact (hE.imm f).1 b o h
   ·exact (hms b h).2.2
  ·rcases hg1 f b o hb with h | ⟨h, rfl, rfl⟩
   ·exact (hE.imm f).2 b o h
   ·exact hm0.mem.fresh b (hms b h).1
  ·rcases hg1 f b o hb with h | ⟨h, rfl, rfl⟩
   ·exact .inl h
   ·refine .inr ⟨?_, ?_⟩
    ·cases hx : g0.mp b with
     | false => rfl
     | true => have := hm0.mem.hs.lt false b (hm0.mem.hs.mp b hx).1; have := (hms b h).1; omega
    ·show pin.ho.lp b = false
     cases hx : pin.ho.lp b with
     | false => rfl
     | true => have := hm0.mem.hs.lt true b (hm0.mem.hs.lp b hx).1; have := (hms b h).1; omega
 have hnfl : ∀ {fo : Nat → Bool}, frS C fo true l = true → False := fun {fo} h => by
  have := hm0.mem.hs.lt true l h; omega
 have hfl : g1.fo l = false := by
  show g0.fo l = false
  cases hx : g0.fo l with
  | false => rfl
  | true => have := hm0.mem.hs.lt false l hx; omega
 have hml : ∀ f, g1.μ f l = none := fun f => by
  cases hx : g1.μ f l with
  | none => rfl
  | some o =>
   rcases hg1 f l o hx with h | ⟨h, _⟩
   ·have := hμlt f l o h; omega
   ·exact ((hms l h).2.1 rfl).elim
 let fo1 : Nat → Bool := fun b => decide (b < w1.heap.size) && !(b == b0)
 have hfo1 : ∀ b, fo1 b = true ↔ b < w1.heap.size ∧ b ≠ b0 := fun b => by simp [fo1]
 have hb0lt := heap_lt hbc
 let mp1 : Nat → Bool := fun b => !tI (g1.tag b) || (g1.mp b || ((b == l) || pin.ho.lp b))
 have hmp1 : ∀ b, mp1 b = true ↔ (g1.tag b ≠ .imm ∨ g1.mp b = true ∨ b = l ∨ pin.ho.lp b = true) := fun b => by
  simp only [mp1, Bool.or_eq_true, Bool.not_eq_true', tI_not, beq_iff_eq]
 have hmplt : ∀ b, mp1 b = true → b < w1.heap.size := fun b hb => by
  rcases (hmp1 b).1 hb with h | h | h | h
  ·exact Nat.lt_of_not_le fun h2 => h (hm1.mem.fresh b h2)
  ·exact hm1.mem.hs.lt false b (hm1.mem.hs.mp b h).1
  ·subst h; exact hl2
  ·exact hm1.mem.hs.lt true b (hm1.mem.hs.lp b h).1
 have hmpb0 : mp1 b0 = false := by
  cases hx : mp1 b0 with
  | false => rfl
  | true =>
   rcases (hmp1 b0).1 hx with h | h | h | h
   ·exact (h (by simp [g1, g0])).elim
   ·have := (hm00.mem.hs.mp b0 h).1; have h2 := hbfr false; rw [show frS ⟨P, w0, N, kp, pin, false⟩ g00.fo false b0 = g00.fo b0 from rfl, this] at h2; cases h2
   ·omega
   ·have := (hm00.mem.hs.lp b0 h).1; rw [hbfr true] at this; cases this
 have hne0 : ∀ b, mp1 b = true → b ≠ b0 := fun b hb e => by rw [e, hmpb0] at hb; cases hb
 let μi : Mu := fun f => cellsH (g1.μ f)
 let yd : Yd := ⟨l, JC C l rc (fun ys => ⟨tm0, B ys, R ys⟩) J K am⟩
 have hok : YdOk P w1.heap.size (μi true) yd xs := by
  refine ⟨fun s ys fo mp W W' fo' h hb hs h1 h2 h3 hf => JC.frame (C := C) (l := l) (rec := rc) (I := fun ys => ⟨tm0, B ys, R ys⟩) (J := J) (K := K) (am := am) h hb hs h1 h2 h3 hf, fun ys d fo mp W S μ vs hJ hpre hfo hmpfo hS hμ1 hμ2 hμ3 himm hvs => ?_⟩
  exact JC.step (F := fun fr => ∀ b, b < w0.heap.size → fr.1 b = true ∧ fr.2.heap[b]? = w0.heap[b]?) (fun fr h => h hn0) (base := w1.heap.size) (kp1 := μi true) (Dd := Dd) (fn := fn) hT hnp hnfl rfl hm1.mem.size (fun b o h => (hm1.mem.keep b o (cellsH_some h).1).1) hdas hdc hpsN hlen hround hJ hpre hfo hS hμ1 hμ2 hμ3 himm hvs
 have hJ0 : JC C l rc (fun ys => ⟨tm0, B ys, R ys⟩) J K am false [] fo1 mp1 w1 := by
  refine ⟨g1, _, hm1, ⟨hm0.mem.fresh l hl1, hml, hfl, (hfo1 l).2 ⟨hl2, by omega⟩, (hmp1 l).2 (.inr (.inr (.inl rfl))), fun b h => (hmp1 b).2 (.inl h), fun b h => (hmp1 b).2 (.inr (.inl h)), fun b h => (hmp1 b).2 (.inr (.inr (.inr h))), fun b h => (hfo1 b).2 ⟨hmplt b h, hne0 b h⟩, fun f b o h => (hfo1 b).2 ⟨heap_lt ((hm1.mem.imm f).1 b o h), fun e => by
   subst e
   rcases hg1 f b o h with h | ⟨h, _⟩
   ·have h : g00.μ f b = some o := h
    rw [hbμ f] at h; cases h
   ·have := (hms b h).1; omega⟩, fun q b h => (hfo1 b).2 ⟨hm1.mem.hs.lt q b h, fun e => by subst e; have h2 := hbfr q; rw [show frS ⟨P, w0, N, kp, pin, false⟩ g00.fo q b = true from h] at h2; cases h2⟩⟩, .inl ⟨rfl, hJ0', rfl, hl3⟩⟩
 have hcall := it.2 w1 μi mp1 yd b0 bcs cs.toList (fun f b o h => (hm1.mem.imm f).1 b o (cellsH_some h).1) (fun f b o h => by
   obtain ⟨h1, h2⟩ := cellsH_some h
   cases hx : mp1 b with
   | false => rfl
   | true =>
    rcases (hmp1 b).1 hx with h3 | h3 | h3 | h3
    ·exact (h3 ((hm1.mem.imm f).2 b o h1)).elim
    ·have := (hm1.mem.hs.mp b h3).2 f; rw [h1] at this; cases this
    ·subst h3; rw [hml f] at h1; cases h1
    ·have := (hm1.mem.hs.lp b h3).2.2 f o h1; rw [h2] at this; cases this) hmplt
  ((hbel.block b0 hb0lt).trans hbc) (rels_imm (g := g00) (g' := gMu μi w1) (fun f ad v hv => cellsH_cell (μ := g1.μ f) (Hp.Le.cell ((hle00.trans hle).μ f) hv)) cells _ himm hbr) (by rw [← hlb, hb0]; exact subBs_ok (g := g00) (fun f ad v hv => cellsH_cell (μ := g1.μ f) (Hp.Le.cell ((hle00.trans hle).μ f) hv)) hcs) hmpb0 (fun f => by
   show cellsH (g1.μ f) b0 = none
   cases hx : cellsH (g1.μ f) b0 with
   | none => rfl
   | some o =>
    rcases hg1 f b0 o (cellsH_some hx).1 with h | ⟨h, _⟩
    ·have h : g00.μ f b0 = some o := h
     rw [hbμ f] at h; cases h
    ·have := (hms b0 h).1; omega) hok hJ0
 refine ⟨l, ms.map markOf, w1, { target := .fn (.func fi) cs, args := #[.func (.yield l) #[] #[]] }, w1, fi, #[.func (.yield l) #[] #[]] ++ cs, w1, ?_, ?_, fun f' _ => Fx_fn _ f', ?_, fun h => by rw [Fx_depth] at h; simp at h, ?_⟩
 ·rw [Fx_round]; exact he
 ·simp only [resolve, hev]
  simp [go_sem]
 ·simp [invoke, go_sem, eg]
 ·have e5 : (#[.func (.yield l) #[] #[]] ++ cs : Array Value) = (.func (.yield l) #[] #[] :: cs.toList).toArray := by
   apply Array.ext'
   simp
  rw [e5]
  refine callsIn_Fx (hcall.mono fun e w3 ⟨⟨v, hv⟩, s, ys, fo, mp, hJ, hs⟩ => ?_)
  subst hv
  obtain ⟨gc, stc, hmc, hlf, hcase⟩ := hJ
  have hmod : ∀ r : Loop, Mod C gc stc am (w3.putObj l (.loop r)) := fun r => hmc.frame (by simp) rfl rfl rfl fun b hb => World.putObj_heap_other fun e => by
   subst e
   rcases hb with h | ⟨f, o, h⟩ | ⟨q, h⟩
   ·exact h hlf.tl
   ·rw [hlf.ml f] at h; cases h
   ·cases q
    ·have h2 := hlf.fl; rw [show gc.fo b = true from h] at h2; cases h2
    ·exact hnfl h
  rcases hcase with ⟨rfl, hjx, rfl, hr⟩ | ⟨rfl, e, jump, hej, hK, hr⟩
  ·refine ⟨none, _, run_endLoop hr (by simp [rc]), ?_⟩
   have := hs rfl
   subst this
   exact ⟨gc, _, hdone hjx, hmod _⟩
  ·refine ⟨some jump, _, run_endLoop hr (by simp [rc]), ?_⟩
   rcases hej with ⟨rfl, rfl⟩ | ⟨i, rfl, rfl⟩
   ·exact wpIn_ret ⟨gc, _, hK, hmod _⟩
   ·exact wpIn_exit ⟨gc, _, hK, hmod _⟩
end

/-- an own box becomes immutable ahead of the loop. -/
def frz1 (k : Nat) (ds : List D) (st : St) : St := ⟨st.tm.map fun p => (p.1, bxV [(k, ds)] p.2), setN st.bx k none, st.rw⟩
theorem sxFb : (∀ T P w0 N kp pin F c K st, asKF T P w0 N kp pin F c K .normal st = ∀ fr, F fr → runC T ⟨P, w0, N, kp, ⟨pin.nb, pin.nr, pin.ρ, pin.σ, pin.μ, pin.np, ⟨pin.ho.yd, pin.ho.ro, false, some fr, pin.ho.lp, pin.ho.sz⟩⟩, false⟩ c st K ⟨⟩) ∧ (∀ β γ rw bx l k ks, leB β γ rw bx (none :: l) (k :: ks) = leB β γ rw bx l ks) ∧ (∀ l, bxVals (none :: l) = bxVals l) ∧ (∀ γ rw l, renB γ rw (none :: l) = none :: renB γ rw l) ∧ (∀ rw bx l k ks, pairB rw bx (none :: l) (k :: ks) = pairB rw bx l ks) ∧
  (∀ T C t x lo h m st K l, opX T C (.slice t x (some lo) (some h) (some m)) st K l = tc4 (tlook T t) (st.ev x) (st.ev lo) (st.ev h) (st.ev m) (stK K st) ⟨⟩) ∧
  (∀ a c e es eb ez q b sz els kd0 lo kd n kd' n' k l, tc4 (some ⟨a, c, .sl e es eb ez, q⟩) (.sl b sz els) (.v (.int kd0 lo)) (.v (.int kd n)) (.v (.int kd' n')) k l = if sz = es then Vc (0 ≤ lo ∧ lo ≤ n ∧ n ≤ n' ∧ n' ≤ els.length) (k (.sl b sz ((els.drop lo.toNat).take (n.toNat - lo.toNat)))) ⟨⟩ else False) :=
 ⟨fun _ _ _ _ _ _ _ _ _ _ => rfl, fun _ _ _ _ _ _ _ => by simp only [leB], fun _ => rfl, fun _ _ _ => rfl, fun _ _ _ _ _ => by simp only [pairB], fun _ _ _ _ _ _ _ _ _ _ => rfl, fun _ _ _ _ _ _ _ _ _ _ _ _ _ _ _ _ _ _ => rfl⟩
end Go.Vx
