/-
 Contracts that lean on package variables, in calls that are carried out in place.
-/
import Derived.Test.YtgcmppghjfidfaaGreatDoorVGlob
import Derived.Test.YtgcmppghjfidfaaGreatDoorVAli
namespace Go.Vx
open Go Go.RowKit
set_option linter.unusedSimpArgs false
set_option linter.unusedVariables false
theorem CallI.inlGK {P : Program} {T : Tab} (hT : TabOk P T) {f : FuncId} {fn : Func} {body : Code} {rs : List ResultVar} {w0 : World} {N : Nat} {kp : Hp} {pin : Pin} {st : St} {K : SV → St → Prop} {args : List SV} {dr : Bool} (hdr : dr = true → htC args = .all) (hf : P.funcs[f]? = some fn) (hb : fn.body = some body) (hname : (fn.name == "runtime.NumGoroutine") = false) (hrs : fn.results.toList = rs)
  (hd : dstOk fn.ntmps body = true) (hargs : args.length ≤ fn.ntmps) (hpf : pin.ho.fr = none ∨ ∃ f0 : (Nat → Bool) × World, pin.ho.fr = some f0 ∧ ∀ b, b < w0.heap.size → f0.1 b = true ∧ f0.2.heap[b]? = w0.heap[b]?) (h : ∀ ρ σ μ (fr : (Nat → Bool) × World) lp, (∀ b, b < w0.heap.size → fr.1 b = true ∧ fr.2.heap[b]? = w0.heap[b]?) → runC T ⟨P, w0, fn.ntmps, kp, ⟨st.bx.length, st.rw.length, ρ, σ, μ, pin.np, pin.ho.out fr lp⟩, false⟩ body ⟨(1000000, look st.tm 1000000) :: argI 0 args, st.bx, st.rw⟩ (_root_.Go.Vx.inlG T rs st.tm K) ⟨⟩) (hG0 : ∃ x, aliO x = true ∧ look st.tm 1000000 = x) : CallI ⟨P, w0, N, kp, pin, dr⟩ f args st K ⟨⟩ := by
 intro g a w ht hm vs hr
 refine ⟨⟨fn, hf, hname, by simp [hb]⟩, ?_⟩
 refine calls_of_wp hf hb ?_
 obtain ⟨ds, d1, d2, d3, d4⟩ := ht.defers
 let C' : Cx := ⟨P, w0, fn.ntmps, kp, ⟨st.bx.length, st.rw.length, g.ρ, g.σ, g.μ, pin.np, pin.ho.out (fun b => frS ⟨P, w0, N, kp, pin, dr⟩ g.fo true b || decide (b ∈ ds), w) (fun b => decide (b ∈ ds) || pin.ho.lp b)⟩, false⟩
 have d5 : ∀ D ∈ ds, g.tag D = .imm ∧ w.heap[D]? = some (.deferred (some [])) := fun D hD => ⟨(hm.imm false).2 D _ (d2 D hD).1, (hm.imm false).1 D _ (d2 D hD).1⟩
 have d6 : ∀ b, frS C' g.fo true b = true ↔ (frS ⟨P, w0, N, kp, pin, dr⟩ g.fo true b = true ∨ b ∈ ds) := fun b => by simp [C', Ho.out, frS]
 have hT' : TabOk C'.P T := hT
 have hvl := rels_length hr
 have hm' : Mod C' g ⟨(1000000, look st.tm 1000000) :: argI 0 args, st.bx, st.rw⟩ { tmps := vs.toArray ++ Array.replicate (fn.ntmps - vs.toArray.size) undef, defers := [] } w := by
  refine ⟨⟨ht.nb, ht.nr, .nil _ _, by simp [C']; omega, fun t => ?_, ht.frz, by rw [ht.nb]; exact Nat.le_refl _, by rw [ht.nr]; exact Nat.le_refl _, fun _ _ => rfl, fun _ _ => rfl, .refl _⟩, hm.os, hm.tape, hm.output, hm.size, fun q b hb => ?_, hm.fresh, hm.box, hm.row, hm.imm, hm.keep, hm.np, ⟨fun q b hb => ?_, hm.hs.mp, fun b hb => ?_, fun b hb => ?_, hm.hs.jj, fun l hl => (by cases hl), hm.hs.sz, hm.hs.wy⟩⟩
  ·simp only [look]
   split
   ·obtain ⟨x, hx1, hx2⟩ := hG0; rw [hx2]; have := ht.tm 1000000; rw [hx2] at this; exact aliO_rel hx1 this
   refine argI_look args vs 0 hr t _ fun _ hlt => ?_
   have hlt : t < vs.length := by omega
   simp only [Nat.sub_zero]
   rw [List.getElem?_eq_getElem hlt]
   simp [Array.getD_eq_getD_getElem?, Array.getElem?_append, hlt]
  ·cases q
   ·exact hm.old false b hb
   ·refine ⟨rfl, ?_⟩
    rcases (d6 b).1 hb with hb | hb
    ·exact (hm.old true b hb).2
    ·exact (d5 b hb).1
  ·cases q
   ·exact hm.hs.lt false b hb
   ·rcases (d6 b).1 hb with hb | hb
    ·exact hm.hs.lt true b hb
    ·exact heap_lt (d5 b hb).2
  ·rcases (d6 b).1 hb with hb | hb
   ·exact hm.hs.nf b hb
   ·cases hmp : g.mp b with
    | false => rfl
    | true =>
     have := (hm.hs.mp b hmp).1
     rw [(d2 b hb).2.2] at this; cases this
  ·have hb' : b ∈ ds ∨ pin.ho.lp b = true := by simpa [C', Ho.out] using hb
   rcases hb' with hb' | hb'
   ·refine ⟨(d6 b).2 (.inr hb'), (d2 b hb').2.2, fun f o ho => ?_⟩
    have := (hm.imm f).1 b o ho
    rw [(d5 b hb').2] at this; cases this; rfl
   ·obtain ⟨p1, p2, p3⟩ := hm.hs.lp b hb'
    exact ⟨(d6 b).2 (.inl p1), p2, p3⟩
 refine wp_mono (wpIn_wide.1 (code_sound hT' body _ _ hd (h g.ρ g.σ g.μ _ _ (fun b hb => by
  rcases hpf with hpf | ⟨f0, hpf, hf0⟩
  ·refine ⟨by simp [frS, hpf, hb], ?_⟩
   have := (hm.old true b (by simp [frS, hpf, hb])).1
   rw [this]; simp [frW, hpf]
  ·refine ⟨by simp [frS, hpf, hf0 b hb], ?_⟩
   have := (hm.old true b (by simp [frS, hpf, hf0 b hb])).1
   rw [this]; simp [frW, hpf, hf0 b hb])) g _ w hm')) fun e a' w' ⟨g', st', h1, h2⟩ => ?_
 have hle : g.Le g' := ⟨by rw [ht.nb]; exact h2.tm.pin.nb, by rw [ht.nr]; exact h2.tm.pin.nr, fun k hk => h2.tm.pin.ρ k (by rw [ht.nb] at hk; exact hk), fun k hk => h2.tm.pin.σ k (by rw [ht.nr] at hk; exact hk), h2.tm.pin.μ⟩
 have key : ∀ {l}, inlG2 (look st'.tm 1000000) (ressS T st' rs) st.tm st' K l → a'.defers = [] ∧ ∃ v, (results fn a'.tmps).run P w' = .ok v w' ∧ ∃ v', Ending.returned v = .returned v' ∧ ∃ g' st' sv, K sv st' ∧ rel g' sv v' ∧ TmOk ⟨P, w0, N, kp, pin, dr⟩ g' st' a ∧ Mem ⟨P, w0, N, kp, pin, dr⟩ g' st' w' ∧ (dr = true → g.Le g' ∧ Fr g (htC args) w w') := by
  intro l he
  refine ⟨by obtain ⟨ds, h3, _, _, h4⟩ := h2.tm.defers; rw [h3, h4 rfl]; rfl, ?_⟩
  unfold inlG2 at he
  split at he
  ·rename_i l hl
   obtain ⟨hG1, he⟩ := he
   obtain ⟨us, k1, k2⟩ := ressS_ok hT' h2.tm h2.mem rs l hl
   rw [← hrs] at k2
   have hres := results_run k2
   have hrel : rel g' (tupV l) (tupU us) := by
    match l, us, k1 with
    | [], [], _ => exact ⟨_, rfl, trivial⟩
    | [x], [u], k => exact k.1
    | x :: y :: l, u :: v :: us, k => exact ⟨_, rfl, by simpa using k⟩
   refine ⟨tupU us, hres, tupU us, rfl, g', _, _, he, rel_normD h2.tm _ _ hrel, ⟨h2.tm.nb, h2.tm.nr, ⟨ds, d1, fun D hD => ⟨hle.μ false _ _ (d2 D hD).1, (d2 D hD).2.1, (h2.mem.hs.lp D (by simp [C', Ho.out, hD])).2.1⟩, d3, d4⟩, ht.size, fun t => (by
    simp only [look]
    split
    ·exact aliO_rel hG1 (h2.tm.tm 1000000)
    ·exact rel_mono hle _ _ (ht.tm t)), h2.tm.frz, ht.pin.mono hle⟩, ⟨h2.mem.os, h2.mem.tape, h2.mem.output, h2.mem.size, fun q b hb => (by
    cases q
    ·exact h2.mem.old false b hb
    ·obtain ⟨q1, q2⟩ := h2.mem.old true b ((d6 b).2 (.inl hb))
     exact ⟨q1.trans (hm.old true b hb).1, q2⟩), h2.mem.fresh, h2.mem.box, h2.mem.row, h2.mem.imm, h2.mem.keep, h2.mem.np, ⟨fun q b hb => (by
    cases q
    ·exact h2.mem.hs.lt false b hb
    ·exact h2.mem.hs.lt true b ((d6 b).2 (.inl hb))), h2.mem.hs.mp, fun b hb => h2.mem.hs.nf b ((d6 b).2 (.inl hb)), fun b hb => ⟨(hm.hs.lp b hb).1, (h2.mem.hs.lp b (by have hb' : pin.ho.lp b = true := hb; simp [C', Ho.out, hb'])).2⟩, h2.mem.hs.jj, hm.hs.ro, h2.mem.hs.sz, h2.mem.hs.wy⟩⟩, fun hd => ⟨hle, by rw [hdr hd]; exact Fr.all⟩⟩
  ·exact he.elim
 cases e with
 | normal => exact key (l := ⟨⟩) h1
 | ret => exact key (l := ⟨⟩) h1
 | exit _ => exact h1.elim
 | goto _ => exact h1.elim
 | panic _ => exact h1.elim
 | outgrown => exact h1.elim
section
variable {C : Cx} {st : St} {K : SV → St → Prop}
theorem Mem.glI {g : Gh} {w : World} {gl : World → Prop} (hG : GlOk gl) (hm : Mem C g st w) {fr : (Nat → Bool) × World} (hn : C.pin.ho.fr = some fr) (hfr : ∀ b, b < C.w0.heap.size → fr.1 b = true ∧ fr.2.heap[b]? = C.w0.heap[b]?) (hg : gl C.w0) : gl w :=
 hG C.w0 w hm.size (fun b hlt => by
  have := (hm.old true b (by simp [frS, hn, (hfr b hlt).1])).1
  rw [this]
  simp [frW, hn, (hfr b hlt).2]) hg
theorem CallI.ctrKI {gl : World → Prop} {f : Nat} {args cargs : List SV} {post : Ret → Prop} {fr : (Nat → Bool) × World} (c : CtrK gl C.P f cargs post) (hG : GlOk gl) (hg : gl C.w0) (hn : C.pin.ho.fr = some fr) (hfr : ∀ b, b < C.w0.heap.size → fr.1 b = true ∧ fr.2.heap[b]? = C.w0.heap[b]?) (hv : argOk st.rw st.bx args cargs)
  (h : ∀ r, post r → K (shV st.rw.length r.v) (extSt st r)) : CallI C f args st K ⟨⟩ := fun g a w ht hm vs hr => by
 refine ⟨c.1, (c.2 w (g.μ true) (hm.imm true).1 (hm.glI hG hn hfr hg) vs (argOk_ok ht hm hv hr)).mono fun e w' ⟨v, r, he, hp, hro⟩ => ?_⟩
 obtain ⟨g', k1, k2, k3, k4⟩ := ext_ok ht hm hro
 exact ⟨v, he, g', _, _, h r hp, k1, k2, k3, fun _ => ⟨k4, (fr_of hro.below).of _⟩⟩
theorem CallI.fnKI {gl : World → Prop} {f : Nat} {args cargs : List SV} {d : SV} {fr : (Nat → Bool) × World} (c : CtrK gl C.P f cargs (fun r => r = ⟨d, []⟩)) (hG : GlOk gl) (hg : gl C.w0) (hn : C.pin.ho.fr = some fr) (hfr : ∀ b, b < C.w0.heap.size → fr.1 b = true ∧ fr.2.heap[b]? = C.w0.heap[b]?) (hv : argOk st.rw st.bx args cargs)
  (h : K (shV st.rw.length d) (extSt st ⟨d, []⟩)) : CallI C f args st K ⟨⟩ := CallI.ctrKI c hG hg hn hfr hv fun r hr => by subst hr; exact h
theorem rdL_strs {μ : Mu} : ∀ l : List ByteArray, RdL μ (l.map fun s => D.v (.string s)) (l.map Value.string)
 | [] => by simp [RdL]
 | s :: l => by simp only [List.map_cons, RdL, Rd]; exact ⟨⟨trivial, rfl⟩, rdL_strs l⟩
theorem addr_add (bk o j : Nat) : (⟨bk, o, none⟩ : Addr).add j = ⟨bk, o + j, none⟩ := by
 unfold Addr.add
 split <;> simp_all
/-- what a package variable of texts holds is told from here on. -/
theorem CallI.glo (i : Nat) (ls : List ByteArray) {ty : TypeId} {fz : Nat × Nat} {f : Nat} {args : List SV} (hp : C.pin = pin0) (hblk : C.w0.heap[i]? = some (.cells (ls.map Value.string).toArray ty fz))
  (h : CallI C f args { st with tm := (2000000, .glo i (ls.map fun s => .v (.string s))) :: st.tm } K ⟨⟩) : CallI C f args st K ⟨⟩ := fun g a w ht hm vs hv => by
 have hlt : i < C.w0.heap.size := heap_lt hblk
 have hfr : frS C g.fo true i = true := by simp [frS, hp, pin0, ho0, hlt]
 have hfw : frW C g.wy true = C.w0 := by simp [frW, hp, pin0, ho0]
 obtain ⟨ho1, ho2⟩ := hm.old true i hfr
 rw [hfw, hblk] at ho1
 obtain ⟨o, ho⟩ : ∃ o, o = Obj.cells (ls.map Value.string).toArray ty fz := ⟨_, rfl⟩
 rw [← ho] at ho1
 let g1 : Gh := { g with μ := fun f => if f = true then g.μ true else fun b => match g.μ false b with
  | some x => some x
  | none => if b = i then some o else none }
 have hg1f : ∀ b, g1.μ false b = match g.μ false b with
  | some x => some x
  | none => if b = i then some o else none := fun b => rfl
 have hle : g.Le g1 := ⟨Nat.le_refl _, Nat.le_refl _, fun _ _ => rfl, fun _ _ => rfl, fun f b x hx => by
  cases f
  ·rw [hg1f, hx]
  ·exact hx⟩
 have hg1 : ∀ f b x, g1.μ f b = some x → g.μ f b = some x ∨ (b = i ∧ x = o) := fun f b x hx => by
  cases f
  ·rw [hg1f] at hx
   split at hx
   ·rename_i y hy; rw [hy]; exact .inl hx
   ·split at hx
    ·cases hx; exact .inr ⟨by assumption, rfl⟩
    ·cases hx
  ·exact .inl hx
 have hcell : g1.μ false i = some o := by
  rw [hg1f]
  cases hx : g.μ false i with
  | none => simp
  | some x =>
   have := (hm.imm false).1 i x hx
   rw [ho1] at this; cases this; rfl
 have hrd : RdC g1.μ (ls.map fun s => D.v (.string s)) false ⟨i, 0, none⟩ 0 := by
  refine RdC.of (us := ls.map Value.string) (rdL_strs ls) fun k u hu => ?_
  rw [addr_add, Nat.zero_add, Nat.zero_add]
  simp only [Hp.cell, hcell, ho]
  simpa using hu
 have hm1 : Mem C g1 st w := by
  refine ⟨hm.os, hm.tape, hm.output, hm.size, hm.old, hm.fresh, fun k b hk => ?_, fun k e s els hk => ?_, fun f => ⟨fun b x hx => ?_, fun b x hx => ?_⟩, hm.keep, hm.np, hm.hs.next rfl rfl rfl (Nat.le_refl _) (fun f b x hx => ?_) fun k s ys hk => ⟨k, hk⟩⟩
  ·obtain ⟨h4, cs, h5, h6⟩ := hm.box k b hk
   exact ⟨h4, cs, h5, rels_mono hle _ _ h6⟩
  ·obtain ⟨h4, h5⟩ := hm.row k e s els hk
   exact ⟨h4.mono hle.μ, h5⟩
  ·rcases hg1 f b x hx with h | ⟨rfl, rfl⟩
   ·exact (hm.imm f).1 b x h
   ·exact ho1
  ·rcases hg1 f b x hx with h | ⟨rfl, rfl⟩
   ·exact (hm.imm f).2 b x h
   ·exact ho2
  ·rcases hg1 f b x hx with h | ⟨rfl, rfl⟩
   ·exact .inl h
   ·exact .inr ⟨hm.hs.nf _ hfr, by rw [hp]; rfl⟩
 have ht1 : TmOk C g1 { st with tm := (2000000, .glo i (ls.map fun s => .v (.string s))) :: st.tm } a :=
  ⟨ht.nb, ht.nr, ht.defers.mono (hle.μ false), ht.size, fun t => by
   simp only [look]
   split
   ·exact hrd
   ·exact rel_mono hle _ _ (ht.tm t), fun k s e hk => (ht.frz k s e hk).mono hle.μ, ht.pin.mono hle⟩
 have hm2 : Mem C g1 { st with tm := (2000000, .glo i (ls.map fun s => .v (.string s))) :: st.tm } w := ⟨hm1.os, hm1.tape, hm1.output, hm1.size, hm1.old, hm1.fresh, hm1.box, hm1.row, hm1.imm, hm1.keep, hm1.np, hm1.hs.same (Nat.le_refl _) rfl⟩
 have := h g1 a w ht1 hm2 vs (rels_mono hle _ _ hv)
 exact ⟨this.1, this.2.mono fun e w' ⟨v, he, g', st', sv, k1, k2, k3, k4, k5⟩ => ⟨v, he, g', st', sv, k1, k2, k3, k4, fun hdr => ⟨hle.trans (k5 hdr).1, fun b hb hn => (k5 hdr).2 b hb hn⟩⟩⟩
end
end Go.Vx
