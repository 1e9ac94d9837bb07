/-
  Contracts that lean on package variables, in calls that are carried out in place.
-/
import Derived.Test.YtgiegokdcmkfeaaGreatDoorVGlob
import Derived.Test.YtgiegokdcmkfeaaGreatDoorVAli
namespace Go.Vx
open Go Go.RowKit
set_option linter.unusedSimpArgs false
set_option linter.unusedVariables false
section
variable {C : Cx} {st : St} {K : SV → St → Prop}
theorem Mem.glI {g : Gh} {w : World} {gl : World → Prop} (hG : GlOk gl) (hm : Mem C g st w) {fr : (Nat → Bool) × World} (hn : C.pin.ho.fr = some fr) (hfr : ∀ b, b < C.w0.heap.size → fr.1 b = true ∧ fr.2.heap[b]? = C.w0.heap[b]?) (hg : gl C.w0) : gl w :=
  hG C.w0 w hm.size (fun b hlt => by
    have := (hm.old true b (by simp [frS, hn, (hfr b hlt).1])).1
    rw [this]
    simp [frW, hn, (hfr b hlt).2]) hg
theorem CallI.ctrKI {gl : World → Prop} {f : Nat} {args cargs : List SV} {post : Ret → Prop} {fr : (Nat → Bool) × World} (c : CtrK gl C.P f cargs post) (hG : GlOk gl) (hg : gl C.w0) (hn : C.pin.ho.fr = some fr) (hfr : ∀ b, b < C.w0.heap.size → fr.1 b = true ∧ fr.2.heap[b]? = C.w0.heap[b]?) (hv : argOk st.rw st.bx args cargs)
    (h : ∀ r, post r → K (shV st.rw.length r.v) (extSt st r)) : CallI C f args st K ⟨⟩ := fun g a w ht hm vs hr => by
  refine ⟨c.1, (c.2 w (g.μ true) (hm.imm true).1 (hm.glI hG hn hfr hg) vs (argOk_ok ht hm hv hr)).mono fun e w' ⟨v, r, he, hp, hro⟩ => ?_⟩
  obtain ⟨g', k1, k2, k3, k4⟩ := ext_ok ht hm hro
  exact ⟨v, he, g', _, _, h r hp, k1, k2, k3, fun _ => ⟨k4, (fr_of hro.below).of _⟩⟩
theorem CallI.fnKI {gl : World → Prop} {f : Nat} {args cargs : List SV} {d : SV} {fr : (Nat → Bool) × World} (c : CtrK gl C.P f cargs (fun r => r = ⟨d, []⟩)) (hG : GlOk gl) (hg : gl C.w0) (hn : C.pin.ho.fr = some fr) (hfr : ∀ b, b < C.w0.heap.size → fr.1 b = true ∧ fr.2.heap[b]? = C.w0.heap[b]?) (hv : argOk st.rw st.bx args cargs)
    (h : K (shV st.rw.length d) (extSt st ⟨d, []⟩)) : CallI C f args st K ⟨⟩ := CallI.ctrKI c hG hg hn hfr hv fun r hr => by subst hr; exact h
theorem rdL_strs {μ : Mu} : ∀ l : List ByteArray, RdL μ (l.map fun s => D.v (.string s)) (l.map Value.string)
  | [] => by simp [RdL]
  | s :: l => by simp only [List.map_cons, RdL, Rd]; exact ⟨⟨trivial, rfl⟩, rdL_strs l⟩
theorem addr_add (bk o j : Nat) : (⟨bk, o, none⟩ : Addr).add j = ⟨bk, o + j, none⟩ := by
  unfold Addr.add
  split <;> simp_all
/-- what a package variable of texts holds is told from here on. -/
theorem CallI.glo (i : Nat) (ls : List ByteArray) {ty : TypeId} {fz : Nat × Nat} {f : Nat} {args : List SV} (hp : C.pin = pin0) (hblk : C.w0.heap[i]? = some (.cells (ls.map Value.string).toArray ty fz))
    (h : CallI C f args { st with tm := (2000000, .glo i (ls.map fun s => .v (.string s))) :: st.tm } K ⟨⟩) : CallI C f args st K ⟨⟩ := fun g a w ht hm vs hv => by
  have hlt : i < C.w0.heap.size := heap_lt hblk
  have hfr : frS C g.fo true i = true := by simp [frS, hp, pin0, ho0, hlt]
  have hfw : frW C g.wy true = C.w0 := by simp [frW, hp, pin0, ho0]
  obtain ⟨ho1, ho2⟩ := hm.old true i hfr
  rw [hfw, hblk] at ho1
  obtain ⟨o, ho⟩ : ∃ o, o = Obj.cells (ls.map Value.string).toArray ty fz := ⟨_, rfl⟩
  rw [← ho] at ho1
  let g1 : Gh := { g with μ := fun f => if f = true then g.μ true else fun b => match g.μ false b with
    | some x => some x
    | none => if b = i then some o else none }
  have hg1f : ∀ b, g1.μ false b = match g.μ false b with
    | some x => some x
    | none => if b = i then some o else none := fun b => rfl
  have hle : g.Le g1 := ⟨Nat.le_refl _, Nat.le_refl _, fun _ _ => rfl, fun _ _ => rfl, fun f b x hx => by
    cases f
    · rw [hg1f, hx]
    · exact hx⟩
  have hg1 : ∀ f b x, g1.μ f b = some x → g.μ f b = some x ∨ (b = i ∧ x = o) := fun f b x hx => by
    cases f
    · rw [hg1f] at hx
      split at hx
      · rename_i y hy; rw [hy]; exact .inl hx
      · split at hx
        · cases hx; exact .inr ⟨by assumption, rfl⟩
        · cases hx
    · exact .inl hx
  have hcell : g1.μ false i = some o := by
    rw [hg1f]
    cases hx : g.μ false i with
    | none => simp
    | some x =>
      have := (hm.imm false).1 i x hx
      rw [ho1] at this; cases this; rfl
  have hrd : RdC g1.μ (ls.map fun s => D.v (.string s)) false ⟨i, 0, none⟩ 0 := by
    refine RdC.of (us := ls.map Value.string) (rdL_strs ls) fun k u hu => ?_
    rw [addr_add, Nat.zero_add, Nat.zero_add]
    simp only [Hp.cell, hcell, ho]
    simpa using hu
  have hm1 : Mem C g1 st w := by
    refine ⟨hm.os, hm.tape, hm.output, hm.size, hm.old, hm.fresh, fun k b hk => ?_, fun k e s els hk => ?_, fun f => ⟨fun b x hx => ?_, fun b x hx => ?_⟩, hm.keep, hm.np, hm.hs.next rfl rfl rfl (Nat.le_refl _) (fun f b x hx => ?_) fun k s ys hk => ⟨k, hk⟩⟩
    · obtain ⟨h4, cs, h5, h6⟩ := hm.box k b hk
      exact ⟨h4, cs, h5, rels_mono hle _ _ h6⟩
    · obtain ⟨h4, h5⟩ := hm.row k e s els hk
      exact ⟨h4.mono hle.μ, h5⟩
    · rcases hg1 f b x hx with h | ⟨rfl, rfl⟩
      · exact (hm.imm f).1 b x h
      · exact ho1
    · rcases hg1 f b x hx with h | ⟨rfl, rfl⟩
      · exact (hm.imm f).2 b x h
      · exact ho2
    · rcases hg1 f b x hx with h | ⟨rfl, rfl⟩
      · exact .inl h
      · exact .inr ⟨hm.hs.nf _ hfr, by rw [hp]; rfl⟩
  have ht1 : TmOk C g1 { st with tm := (2000000, .glo i (ls.map fun s => .v (.string s))) :: st.tm } a :=
    ⟨ht.nb, ht.nr, ht.defers.mono (hle.μ false), ht.size, fun t => by
      simp only [look]
      split
      · exact hrd
      · exact rel_mono hle _ _ (ht.tm t), fun k s e hk => (ht.frz k s e hk).mono hle.μ, ht.pin.mono hle⟩
  have hm2 : Mem C g1 { st with tm := (2000000, .glo i (ls.map fun s => .v (.string s))) :: st.tm } w := ⟨hm1.os, hm1.tape, hm1.output, hm1.size, hm1.old, hm1.fresh, hm1.box, hm1.row, hm1.imm, hm1.keep, hm1.np, hm1.hs.same (Nat.le_refl _) rfl⟩
  have := h g1 a w ht1 hm2 vs (rels_mono hle _ _ hv)
  exact ⟨this.1, this.2.mono fun e w' ⟨v, he, g', st', sv, k1, k2, k3, k4, k5⟩ => ⟨v, he, g', st', sv, k1, k2, k3, k4, fun hdr => ⟨hle.trans (k5 hdr).1, fun b hb hn => (k5 hdr).2 b hb hn⟩⟩⟩
end
end Go.Vx
