/-
  A loop over an iterator is carried out: the rule.
-/
import Derived.Test.YtgcmppghjfidfaaGreatDoorVIt
namespace Go.Vx
open Go Go.RowKit
set_option linter.unusedSimpArgs false

def tI : Tag → Bool
  | .imm => true
  | _ => false
theorem tI_iff {t : Tag} : tI t = true ↔ t = .imm := by cases t <;> simp [tI]
theorem tI_not {t : Tag} : tI t = false ↔ t ≠ .imm := by cases t <;> simp [tI]

/-- what the caller of an iterator has between two rounds. -/
structure LF (C : Cx) (l : Nat) (g : Gh) (fo mp : Nat → Bool) : Prop where
  tl : g.tag l = .imm
  ml : ∀ f, g.μ f l = none
  fl : g.fo l = false
  fol : fo l = true
  mpl : mp l = true
  own : ∀ b, g.tag b ≠ .imm → mp b = true
  gmp : ∀ b, g.mp b = true → mp b = true
  lp : ∀ b, C.pin.ho.lp b = true → mp b = true
  mf : ∀ b, mp b = true → fo b = true
  μ : ∀ f b o, g.μ f b = some o → fo b = true
  fr : ∀ q b, frS C g.fo q b = true → fo b = true

def JC (C : Cx) (l : Nat) (rec : LoopState → Option Code → Loop) (I : List (List SV) → St) (J : List (List SV) → Prop) (K : Exit → St → Prop) (am : Act) (s : Bool) (ys : List (List SV)) (fo mp : Nat → Bool) (W : World) : Prop :=
  ∃ g st, Mod C g st am W ∧ LF C l g fo mp ∧
    ((s = false ∧ J ys ∧ st = I ys ∧ W.heap[l]? = some (.loop (rec .ready none))) ∨
     (s = true ∧ ∃ e jump, ((e = .ret ∧ jump = Code.ret) ∨ ∃ i, e = .exit i ∧ jump = Code.exit i) ∧ K e st ∧ W.heap[l]? = some (.loop (rec .done (some jump)))))

section
variable {P : Program} {T : Tab} {w0 : World} {N : Nat} {kp : Hp} {pin : Pin}

theorem JC.frame {C : Cx} {l : Nat} {rec : LoopState → Option Code → Loop} {I : List (List SV) → St} {J : List (List SV) → Prop} {K : Exit → St → Prop} {am : Act} {s : Bool} {ys : List (List SV)} {fo mp : Nat → Bool} {W W' : World} {fo' : Nat → Bool}
    (h : JC C l rec I J K am s ys fo mp W) (hb : ∀ b, fo b = true → W'.heap[b]? = W.heap[b]?) (hs : W.heap.size ≤ W'.heap.size) (h1 : W'.os = W.os) (h2 : W'.tape = W.tape) (h3 : W'.output = W.output) (hf : ∀ b, fo b = true → fo' b = true) : JC C l rec I J K am s ys fo' mp W' := by
  obtain ⟨g, st, hm, hl, hc⟩ := h
  refine ⟨g, st, hm.frame hs h1 h2 h3 fun b h => hb b ?_, ⟨hl.tl, hl.ml, hl.fl, hf _ hl.fol, hl.mpl, hl.own, hl.gmp, hl.lp, fun b h => hf b (hl.mf b h), fun f b o h => hf b (hl.μ f b o h), fun q b h => hf b (hl.fr q b h)⟩, ?_⟩
  · rcases h with h | ⟨f, o, h⟩ | ⟨q, h⟩
    · exact hl.mf b (hl.own b h)
    · exact hl.μ f b o h
    · exact hl.fr q b h
  · rw [hb l hl.fol]; exact hc

/-- .. of a frame of which F holds. -/
def asKF (T : Tab) (P : Program) (w0 : World) (N : Nat) (kp : Hp) (pin : Pin) (F : (Nat → Bool) × World → Prop) (c : Code) (K : Exit → St → Prop) (e : Exit) (st : St) : Prop :=
  match e with
  | .normal => ∀ fr, F fr → runC T ⟨P, w0, N, kp, ⟨pin.nb, pin.nr, pin.ρ, pin.σ, pin.μ, pin.np, ⟨pin.ho.yd, pin.ho.ro, false, some fr, pin.ho.lp, pin.ho.sz⟩⟩, false⟩ c st K ⟨⟩
  | _ => False
theorem asKF_true {T : Tab} {P : Program} {w0 : World} {N : Nat} {kp : Hp} {pin : Pin} {c : Code} {K : Exit → St → Prop} : asKF T P w0 N kp pin (fun _ => True) c K = asK T P w0 N kp pin c K := by
  funext e st
  cases e <;> simp [asK, asKF]

/-- one round. -/
theorem JC.step {F : (Nat → Bool) × World → Prop} (hF : ∀ fr, (pin.ho.fr = none → ∀ b, b < w0.heap.size → fr.1 b = true ∧ fr.2.heap[b]? = w0.heap[b]?) → F fr) (hT : TabOk P T) (hnp : ∀ b, pin.np b = false) {l : Nat} {rec : LoopState → Option Code → Loop} {B : List (List SV) → List (Option Bx)} {R : List (List SV) → List Rw} {J : List (List SV) → Prop} {tm0 : List (Nat × SV)} {K : Exit → St → Prop} {am : Act} {fn : FuncId} {ps : List Nat} {as c : Code} {Dd : Nat} {xs : List (List SV)} {base : Nat} {kp1 : Hp}
    (hnfl : ∀ {fo : Nat → Bool}, frS ⟨P, w0, N, kp, pin, false⟩ fo true l = true → False) (hrec : rec = fun st pe => { state := st, pending := pe, fn, tmps := am.tmps, params := ps.toArray, assign := as, body := c, defers := Dd })
    (hbase : w0.heap.size ≤ base) (hkp : ∀ b o, kp1 b = some o → w0.heap.size ≤ b ∨ ∃ o', kp b = some o')
    (hdas : dstOk N as = true) (hdc : dstOk N c = true) (hpsN : ∀ p ∈ ps, p < N) (hlen : ∀ d ∈ xs, d.length = ps.length)
    (hround : ∀ pre d, (pre ++ [d]) <+: xs → J pre → ∀ ρ σ μ ho', ho'.yd = pin.ho.yd → ho'.ro.isSome = true → runC T ⟨P, w0, N, kp, ⟨(B pre).length, (R pre).length, ρ, σ, μ, pin.np, ho'⟩, false⟩ as ⟨setPs ps d tm0, B pre, R pre⟩
      (asKF T P w0 N kp ⟨(B pre).length, (R pre).length, ρ, σ, μ, pin.np, ho'⟩ F c (rdK ⟨P, w0, N, kp, pin, false⟩ (J (pre ++ [d])) tm0 (B (pre ++ [d])) (R (pre ++ [d])) K)) ⟨⟩)
    {ys : List (List SV)} {d : List SV} {fo mp : Nat → Bool} {W : World} {S : Nat → Bool} {μ : Mu} {vs : List Value} (hJ : JC ⟨P, w0, N, kp, pin, false⟩ l rec (fun ys => ⟨tm0, B ys, R ys⟩) J K am false ys fo mp W) (hpre : (ys ++ [d]) <+: xs)
    (hfo : ∀ b, fo b = true → b < W.heap.size) (hS : ∀ b, S b = true → fo b = false ∧ b < W.heap.size ∧ ∀ f, μ f b = none) (hμ1 : ∀ f, (μ f).In W) (hμ2 : ∀ f b o, μ f b = some o → mp b = false) (hμ3 : ∀ b o, μ true b = some o → base ≤ b ∨ ∃ o', kp1 b = some o')
    (himm : immVL d = true) (hvs : rels (gMu μ W) d vs) :
    ∃ fn tmps assign body, (Instr.yield l vs.toArray).run P W = .ok (.round l fn tmps assign body) W ∧ RoundIn Fence.wide 0 P l fn tmps assign body W (fun e w' => ∃ s fo' mp', e = .returned (.bool (!s)) ∧ JC ⟨P, w0, N, kp, pin, false⟩ l rec (fun ys => ⟨tm0, B ys, R ys⟩) J K am s (ys ++ [d]) fo' mp' w' ∧
      W.heap.size ≤ w'.heap.size ∧ w'.os = W.os ∧ w'.tape = W.tape ∧ w'.output = W.output ∧ (∀ b, b < W.heap.size → mp b = false → w'.heap[b]? = W.heap[b]?) ∧
      (∀ b, mp' b = true → mp b = true ∨ W.heap.size ≤ b) ∧ (∀ b, mp' b = true → fo' b = true) ∧ (∀ b, fo' b = true → b < w'.heap.size ∧ S b = false)) := by
  obtain ⟨gc, _, hm, hl, ⟨_, hj0, rfl, hrc⟩ | ⟨h, _⟩⟩ := hJ
  case inr => cases h
  have hvl : vs.length = ps.length := by
    rw [rels_length hvs]
    exact hlen d (hpre.subset (by simp))
  have hy := run_yield (P := P) (args := vs.toArray) hrc (by rw [hrec]; simpa using hvl)
  refine ⟨fn, ((ps.zip vs).foldl (fun (t : Array Value) (x : Nat × Value) => t.setIfInBounds x.1 x.2) am.tmps), as, c, ?_, ?_⟩
  · rw [hrec] at hy
    simpa [Array.zip, List.zip] using hy
  -- the ghost of the round
  let gr : Gh := { gc with μ := fun f => (gc.μ f).join (μ f) }
  have hle : gc.Le gr := ⟨Nat.le_refl _, Nat.le_refl _, fun _ _ => rfl, fun _ _ => rfl, fun f => Hp.le_join_left _ _⟩
  have hμle : μ.Le gr.μ := fun f => Hp.le_join_right (hm.mem.imm f).1 (hμ1 f)
  obtain ⟨ds, d1, d2, d3, d4⟩ := hm.tm.defers
  let fr1 : Nat → Bool := fun b => decide (b < W.heap.size) && (tI (gc.tag b) && !gc.mp b)
  have hfr1 : ∀ b, fr1 b = true ↔ b < W.heap.size ∧ gc.tag b = .imm ∧ gc.mp b = false := fun b => by
    simp [fr1, tI_iff]
  let lp1 : Nat → Bool := fun b => S b || ((b == l) || (decide (b ∈ ds) || pin.ho.lp b))
  have hlp1 : ∀ b, lp1 b = true ↔ (S b = true ∨ b = l ∨ b ∈ ds ∨ pin.ho.lp b = true) := fun b => by simp [lp1]
  have hmpfo : ∀ b, gc.mp b = true → gc.fo b = true := fun b h => (hm.mem.hs.mp b h).1
  have hlfr : fr1 l = true := (hfr1 l).2 ⟨heap_lt hrc, hl.tl, by
    cases hx : gc.mp l with
    | false => rfl
    | true => have := hmpfo l hx; rw [hl.fl] at this; cases this⟩
  have hnmp : ∀ b, mp b = false → gc.tag b = .imm ∧ gc.mp b = false ∧ b ≠ l ∧ pin.ho.lp b = false := fun b h => by
    refine ⟨Classical.byContradiction fun h2 => ?_, ?_, fun e => ?_, ?_⟩
    · rw [hl.own b h2] at h; cases h
    · cases hx : gc.mp b with
      | false => rfl
      | true => rw [hl.gmp b hx] at h; cases h
    · subst e; rw [hl.mpl] at h; cases h
    · cases hx : pin.ho.lp b with
      | false => rfl
      | true => rw [hl.lp b hx] at h; cases h
  have hSn : ∀ b, S b = true → mp b = false := fun b h => by
    cases hx : mp b with
    | false => rfl
    | true => have := hl.mf b hx; rw [(hS b h).1] at this; cases this
  have hSμ : ∀ b, S b = true → ∀ f, gr.μ f b = none := fun b h f => by
    show ((gc.μ f).join (μ f)) b = none
    unfold Hp.join
    rw [(hS b h).2.2 f]
    cases hx : gc.μ f b with
    | none => rfl
    | some o => have := hl.μ f b o hx; rw [(hS b h).1] at this; cases this
  have hlμ : ∀ f, gr.μ f l = none := fun f => by
    show ((gc.μ f).join (μ f)) l = none
    unfold Hp.join
    rw [hl.ml f]
    cases hx : μ f l with
    | none => rfl
    | some o => have := hμ2 f l o hx; rw [hl.mpl] at this; cases this
  have hgrIn : ∀ f, (gr.μ f).In W := fun f => (hm.mem.imm f).1.join (hμ1 f)
  have hdsD : ∀ D ∈ ds, gc.tag D = .imm ∧ W.heap[D]? = some (.deferred (some [])) ∧ gc.mp D = false := fun D hD => ⟨(hm.mem.imm false).2 D _ (d2 D hD).1, (hm.mem.imm false).1 D _ (d2 D hD).1, by
    cases hx : gc.mp D with
    | false => rfl
    | true => have := hmpfo D hx; rw [(d2 D hD).2.2] at this; cases this⟩
  have hpf : ∀ b, frS ⟨P, w0, N, kp, pin, false⟩ gc.fo true b = true → fr1 b = true := fun b h => (hfr1 b).2 ⟨hm.mem.hs.lt true b h, (hm.mem.old true b h).2, hm.mem.hs.nf b h⟩
  let ho1 : Ho := ⟨pin.ho.yd, some l, false, some (fr1, W), lp1, W.heap.size⟩
  let C1 : Cx := ⟨P, w0, N, kp, ⟨(B ys).length, (R ys).length, gr.ρ, gr.σ, gr.μ, pin.np, ho1⟩, false⟩
  have hT1 : TabOk C1.P T := hT
  obtain ⟨hset1, hset2⟩ := setPs_ok (g := gr) ps d vs tm0 am.tmps (rels_imm (g := gMu μ W) (g' := gr) hμle.toC d vs himm hvs) (fun t => rel_mono hle _ _ (hm.tm.tm t)) (fun p hp => by rw [hm.tm.size]; exact hpsN p hp)
  have hm1 : Mod C1 gr ⟨setPs ps d tm0, B ys, R ys⟩ { tmps := (ps.zip vs).foldl (fun (t : Array Value) (x : Nat × Value) => t.setIfInBounds x.1 x.2) am.tmps, defers := [] } W := by
    refine ⟨⟨hm.tm.nb, hm.tm.nr, .nil _ _, by rw [hset2]; exact hm.tm.size, hset1, fun k s e hk => (hm.tm.frz k s e hk).mono hle.μ, Nat.le_of_eq hm.tm.nb.symm, Nat.le_of_eq hm.tm.nr.symm, fun _ _ => rfl, fun _ _ => rfl, .refl _⟩,
      hm.mem.os, hm.mem.tape, hm.mem.output, hm.mem.size, fun q b hb => ?_, hm.mem.fresh, fun k b hk => ?_, fun k e s els hk => ?_, fun f => ⟨hgrIn f, fun b o hb => ?_⟩, fun b o hb => ?_, fun b hb => (by rw [show C1.pin.np b = pin.np b from rfl, hnp b] at hb; cases hb),
      ⟨fun q b hb => ?_, fun b hb => ⟨hmpfo b hb, fun f => ?_⟩, fun b hb => ((hfr1 b).1 hb).2.2, fun b hb => ?_, hm.mem.hs.jj, fun l' hl' => ?_, Nat.le_refl _, hm.mem.hs.wy⟩⟩
    · cases q
      · exact hm.mem.old false b hb
      · exact ⟨rfl, ((hfr1 b).1 hb).2.1⟩
    · obtain ⟨h4, cs, h5, h6⟩ := hm.mem.box k b hk
      exact ⟨h4, cs, h5, rels_mono hle _ _ h6⟩
    · obtain ⟨h4, h5⟩ := hm.mem.row k e s els hk
      exact ⟨h4.mono hle.μ, h5⟩
    · rcases Hp.join_some hb with h | h
      · exact (hm.mem.imm f).2 b o h
      · exact (hnmp b (hμ2 f b o h)).1
    · refine ⟨?_, hnp b⟩
      rcases Hp.join_some hb with h | h
      · exact (hm.mem.keep b o h).1
      · rcases hμ3 b o h with h | ⟨o', h⟩
        · exact .inl (Nat.le_trans hbase h)
        · exact hkp b o' h
    · cases q
      · exact hm.mem.hs.lt false b hb
      · exact ((hfr1 b).1 hb).1
    · show ((gc.μ f).join (μ f)) b = none
      unfold Hp.join
      rw [(hm.mem.hs.mp b hb).2 f]
      cases hx : μ f b with
      | none => rfl
      | some o => have := (hnmp b (hμ2 f b o hx)).2.1; rw [show gc.mp b = true from hb] at this; cases this
    · rcases (hlp1 b).1 hb with h | h | h | h
      · have h2 := hnmp b (hSn b h)
        refine ⟨(hfr1 b).2 ⟨(hS b h).2.1, h2.1, h2.2.1⟩, ?_, fun f o ho => by rw [hSμ b h f] at ho; cases ho⟩
        show gc.fo b = false
        cases hx : gc.fo b with
        | false => rfl
        | true => have := hl.fr false b hx; rw [(hS b h).1] at this; cases this
      · subst h
        exact ⟨hlfr, hl.fl, fun f o ho => by rw [hlμ f] at ho; cases ho⟩
      · have h2 := hdsD b h
        exact ⟨(hfr1 b).2 ⟨heap_lt h2.2.1, h2.1, h2.2.2⟩, (d2 b h).2.2, fun f o ho => by have := hgrIn f b o ho; rw [h2.2.1] at this; cases this; rfl⟩
      · obtain ⟨p1, p2, p3⟩ := hm.mem.hs.lp b h
        refine ⟨hpf b p1, p2, fun f o ho => ?_⟩
        rcases Hp.join_some ho with h3 | h3
        · exact p3 f o h3
        · have := hμ2 f b o h3; rw [hl.lp b h] at this; cases this
    · cases hl'
      exact ⟨hlfr, _, hrc⟩
  refine roundIn_of_wpIn (F := Fence.wide) (n := 0) trivial ?_
  refine wpIn_mono (code_sound hT1 as _ _ hdas (hround ys d hpre hj0 gr.ρ gr.σ gr.μ ho1 rfl rfl) gr _ W hm1) fun e1 a1 w1 ⟨g1, st1, hk1, hm2⟩ => ?_
  unfold asKF at hk1
  split at hk1
  case h_2 => exact hk1.elim
  -- the record is busy
  have hw1l : w1.heap[l]? = some (.loop (rec .ready none)) := (hm2.mem.old true l hlfr).1.trans hrc
  refine ⟨_, run_beginRound hw1l (by rw [hrec]), ?_⟩
  have hoth1 : ∀ b, b ≠ l → (w1.putObj l (.loop { rec .ready none with state := .busy })).heap[b]? = w1.heap[b]? := fun b hb => World.putObj_heap_other hb
  have hl2 : (w1.putObj l (.loop { rec .ready none with state := .busy })).heap[l]? = some (.loop { rec .ready none with state := .busy }) := World.putObj_heap_same (heap_lt hw1l)
  generalize hw2 : w1.putObj l (.loop { rec .ready none with state := .busy }) = w2 at hoth1 hl2
  have hsz2 : w2.heap.size = w1.heap.size := by rw [← hw2]; simp
  have hm3 := hm2.poke (fun b => b == l) (fun b hb => (hlp1 b).2 (.inr (.inl (by simpa using hb)))) (fun f b hb => by rw [show b = l by simpa using hb]; exact hlμ f)
    (fun D h1 _ _ => by
      obtain ⟨ds', e1, _, _, e4⟩ := hm2.tm.defers
      rw [e1, e4 rfl] at h1
      exact (h1 rfl).elim)
    (w₂ := w2) hsz2 (by rw [← hw2]; rfl) (by rw [← hw2]; rfl) (by rw [← hw2]; rfl) (fun b hb => hoth1 b (by simpa using hb)) (fun l' hl' => by cases hl'; exact ⟨_, hl2⟩)
  have hFf : pin.ho.fr = none → ∀ b, b < w0.heap.size → fr1 b = true ∧ w2.heap[b]? = w0.heap[b]? := fun hn b hb => by
    have h1 : frS ⟨P, w0, N, kp, pin, false⟩ gc.fo true b = true := by simp [frS, hn, hb]
    have h2 := hpf b h1
    have hne : b ≠ l := fun e => by subst e; exact hnfl h1
    refine ⟨h2, (hoth1 b hne).trans (((hm2.mem.old true b h2).1).trans ?_)⟩
    have h3 := (hm.mem.old true b h1).1
    simpa [frW, hn] using h3
  refine wpIn_mono (code_sound (C := ⟨P, w0, N, kp, ⟨(B ys).length, (R ys).length, gr.ρ, gr.σ, gr.μ, pin.np, ⟨pin.ho.yd, some l, false, some (fr1, w2), lp1, W.heap.size⟩⟩, false⟩) hT c _ _ hdc (hk1 (fr1, w2) (hF _ hFf)) _ _ w2 hm3) fun e3 a3 w3 ⟨g3, st3, hk3, hm4⟩ => ?_
  -- behind the body
  have hw3l : w3.heap[l]? = some (.loop { rec .ready none with state := .busy }) := (hm4.mem.old true l hlfr).1.trans hl2
  have hle3 : gc.Le g3 := ⟨by rw [hm.tm.nb]; exact hm4.tm.pin.nb, by rw [hm.tm.nr]; exact hm4.tm.pin.nr, fun k hk => hm4.tm.pin.ρ k (by rw [hm.tm.nb] at hk; exact hk), fun k hk => hm4.tm.pin.σ k (by rw [hm.tm.nr] at hk; exact hk), hle.μ.trans hm4.tm.pin.μ⟩
  have hF3 : ∀ b, fr1 b = true → b ≠ l → w3.heap[b]? = W.heap[b]? := fun b hb hne => by
    rw [(hm4.mem.old true b hb).1, show frW (⟨P, w0, N, kp, ⟨(B ys).length, (R ys).length, gr.ρ, gr.σ, gr.μ, pin.np, ⟨pin.ho.yd, some l, false, some (fr1, w2), lp1, W.heap.size⟩⟩, false⟩ : Cx) g3.wy true = w2 from rfl, hoth1 b hne]
    exact (hm2.mem.old true b hb).1
  -- back in the caller's frame
  let C3 : World → Cx := fun wx => ⟨P, w0, N, kp, ⟨pin.nb, pin.nr, pin.ρ, pin.σ, pin.μ, pin.np, ⟨pin.ho.yd, none, pin.ho.mks, some (fr1, wx), lp1, W.heap.size⟩⟩, false⟩
  have hm5 : Mod (C3 w2) g3 ⟨tm0, st3.bx, st3.rw⟩ am w3 := by
    have hpin := hm.tm.pin.mono hle3
    refine ⟨⟨hm4.tm.nb, hm4.tm.nr, ⟨ds, d1, fun D hD => ⟨hle3.μ false _ _ (d2 D hD).1, (d2 D hD).2.1, (hm4.mem.hs.lp D ((hlp1 D).2 (.inr (.inr (.inl hD))))).2.1⟩, d3, d4⟩, hm.tm.size, fun t => rel_mono hle3 _ _ (hm.tm.tm t), hm4.tm.frz, hpin.nb, hpin.nr, hpin.ρ, hpin.σ, hpin.μ⟩,
      hm4.mem.os, hm4.mem.tape, hm4.mem.output, hm4.mem.size, hm4.mem.old, hm4.mem.fresh, hm4.mem.box, hm4.mem.row, hm4.mem.imm, fun b o hb => hm4.mem.keep b o hb, fun b hb => hm4.mem.np b hb, ⟨hm4.mem.hs.lt, hm4.mem.hs.mp, hm4.mem.hs.nf, hm4.mem.hs.lp, hm4.mem.hs.jj, fun l' hl' => (by cases hl'), hm4.mem.hs.sz, hm4.mem.hs.wy⟩⟩
  have hpinμ : ∀ f b, (S b || b == l) = true → pin.μ f b = none := fun f b hb => by
    cases hx : pin.μ f b with
    | none => rfl
    | some o =>
      have h2 := hm.tm.pin.μ f b o hx
      simp only [Bool.or_eq_true, beq_iff_eq] at hb
      rcases hb with hb | hb
      · have := hSμ b hb f
        rw [hle.μ f b o h2] at this; cases this
      · subst hb; rw [hl.ml f] at h2; cases h2
  have hdsX : ∀ D, gc.μ false D = some (.deferred (some [])) → (S D || D == l) = false := fun D hD => by
    cases hx : (S D || D == l) with
    | false => rfl
    | true =>
      simp only [Bool.or_eq_true, beq_iff_eq] at hx
      rcases hx with hx | hx
      · have := hSμ D hx false
        rw [hle.μ false D _ hD] at this; cases this
      · subst hx; rw [hl.ml false] at hD; cases hD
  have fin : ∀ (jump : Option Code) (g4 : Gh) (st4 : St), Mod (C3 w2) g4 st4 am w3 →
      ((jump = none ∧ J (ys ++ [d]) ∧ st4 = ⟨tm0, B (ys ++ [d]), R (ys ++ [d])⟩) ∨ ∃ e j, jump = some j ∧ ((e = .ret ∧ j = Code.ret) ∨ ∃ i, e = .exit i ∧ j = Code.exit i) ∧ K e st4) →
      ∃ v w', (Instr.endRound l jump).run P w3 = .ok v w' ∧ ∃ s fo' mp', Ending.returned v = .returned (.bool (!s)) ∧ JC ⟨P, w0, N, kp, pin, false⟩ l rec (fun ys => ⟨tm0, B ys, R ys⟩) J K am s (ys ++ [d]) fo' mp' w' ∧
      W.heap.size ≤ w'.heap.size ∧ w'.os = W.os ∧ w'.tape = W.tape ∧ w'.output = W.output ∧ (∀ b, b < W.heap.size → mp b = false → w'.heap[b]? = W.heap[b]?) ∧
      (∀ b, mp' b = true → mp b = true ∨ W.heap.size ≤ b) ∧ (∀ b, mp' b = true → fo' b = true) ∧ (∀ b, fo' b = true → b < w'.heap.size ∧ S b = false) := by
    intro jump g4 st4 hm6 hcase
    refine ⟨_, _, run_endRound jump hw3l, ?_⟩
    have hoth4 : ∀ b, b ≠ l → (w3.putObj l (.loop { { rec .ready none with state := .busy } with state := if jump.isNone then .ready else .done, pending := jump })).heap[b]? = w3.heap[b]? := fun b hb => World.putObj_heap_other hb
    have hl4 : (w3.putObj l (.loop { { rec .ready none with state := .busy } with state := if jump.isNone then .ready else .done, pending := jump })).heap[l]? = some (.loop (rec (if jump.isNone then .ready else .done) jump)) := by
      rw [hrec]; exact World.putObj_heap_same (heap_lt hw3l)
    generalize hw4 : w3.putObj l (.loop { { rec .ready none with state := .busy } with state := if jump.isNone then .ready else .done, pending := jump }) = w4 at hoth4 hl4
    have hsz4 : w4.heap.size = w3.heap.size := by rw [← hw4]; simp
    have hos4 : w4.os = w3.os ∧ w4.tape = w3.tape ∧ w4.output = w3.output := by rw [← hw4]; exact ⟨rfl, rfl, rfl⟩
    obtain ⟨ds', e1, e2, e3, e4⟩ := hm6.tm.defers
    have hm7 := hm6.poke (fun b => S b || b == l) (fun b hb => by
        simp only [Bool.or_eq_true, beq_iff_eq] at hb
        exact (hlp1 b).2 (hb.elim .inl fun h => .inr (.inl h))) hpinμ
      (fun D _ _ h1 => by
        rw [d1] at h1
        obtain ⟨D', hD', he⟩ := List.mem_map.1 h1
        have : D' = D := by simpa [markOf] using he
        subst this
        exact hdsX D' (d2 D' hD').1) (w₂ := w4) hsz4 hos4.1 hos4.2.1 hos4.2.2 (fun b hb => hoth4 b (by
          simp only [Bool.or_eq_false_iff, beq_eq_false_iff_ne] at hb; exact hb.2)) (fun l' hl' => by cases hl')
    have hWsz : W.heap.size ≤ w4.heap.size := by rw [hsz4]; exact hm4.mem.hs.sz
    generalize hg6 : g4.drop (fun b => S b || b == l) = g6 at hm7
    have hg6μ : ∀ f b, (S b || b == l) = true → g6.μ f b = none := fun f b hb => by
      rw [← hg6]; show dropB (fun b => S b || b == l) (g4.μ f) b = none; unfold dropB; simp only [hb, if_true]
    have hF4 : ∀ b, fr1 b = true → b ≠ l → w4.heap[b]? = W.heap[b]? := fun b hb hne => (hoth4 b hne).trans (hF3 b hb hne)
    have hfrl : frS ⟨P, w0, N, kp, pin, false⟩ gc.fo true l = true → False := hnfl
    -- in the caller's own frame
    have hm8 : Mod ⟨P, w0, N, kp, pin, false⟩ g6 st4 am w4 := by
      refine ⟨⟨hm7.tm.nb, hm7.tm.nr, hm7.tm.defers, hm7.tm.size, hm7.tm.tm, hm7.tm.frz, hm7.tm.pin.nb, hm7.tm.pin.nr, hm7.tm.pin.ρ, hm7.tm.pin.σ, hm7.tm.pin.μ⟩, hm7.mem.os, hm7.mem.tape, hm7.mem.output, hm7.mem.size, fun q b hb => ?_, hm7.mem.fresh, hm7.mem.box, hm7.mem.row, hm7.mem.imm, hm7.mem.keep, hm7.mem.np, ⟨fun q b hb => ?_, hm7.mem.hs.mp, fun b hb => hm7.mem.hs.nf b (hpf b hb), fun b hb => ?_, hm7.mem.hs.jj, hm.mem.hs.ro, Nat.le_trans hm.mem.hs.sz hWsz, hm7.mem.hs.wy⟩⟩
      · cases q
        · exact hm7.mem.old false b hb
        · have h1 := hpf b hb
          have hne : b ≠ l := fun e => hfrl (by rw [← e]; exact hb)
          exact ⟨(hF4 b h1 hne).trans (hm.mem.old true b hb).1, (hm7.mem.old true b h1).2⟩
      · cases q
        · exact hm7.mem.hs.lt false b hb
        · exact hm7.mem.hs.lt true b (hpf b hb)
      · obtain ⟨_, p2, p3⟩ := hm7.mem.hs.lp b ((hlp1 b).2 (.inr (.inr (.inr hb))))
        exact ⟨(hm.mem.hs.lp b hb).1, p2, p3⟩
    have hfoS : ∀ b, S b = true → g6.fo b = false := fun b hb => (hm7.mem.hs.lp b ((hlp1 b).2 (.inl hb))).2.1
    have htagS : ∀ b, S b = true → g6.tag b = .imm := fun b hb => (hm7.mem.old true b (hm7.mem.hs.lp b ((hlp1 b).2 (.inl hb))).1).2
    let fo' : Nat → Bool := fun b => decide (b < w4.heap.size) && !S b
    let mp' : Nat → Bool := fun b => !tI (g6.tag b) || (g6.mp b || ((b == l) || pin.ho.lp b))
    have hfo' : ∀ b, fo' b = true ↔ b < w4.heap.size ∧ S b = false := fun b => by simp [fo']
    have hmp' : ∀ b, mp' b = true ↔ (g6.tag b ≠ .imm ∨ g6.mp b = true ∨ b = l ∨ pin.ho.lp b = true) := fun b => by
      simp only [mp', Bool.or_eq_true, Bool.not_eq_true', tI_not, beq_iff_eq]
    have hSl : S l = false := by
      cases hx : S l with
      | false => rfl
      | true => have := (hS l hx).1; rw [hl.fol] at this; cases this
    have hSf : ∀ b, fo b = true → S b = false := fun b hb => by
      cases hx : S b with
      | false => rfl
      | true => have := (hS b hx).1; rw [hb] at this; cases this
    have hmf : ∀ b, mp' b = true → fo' b = true := fun b hb => by
      refine (hfo' b).2 ?_
      rcases (hmp' b).1 hb with h | h | h | h
      · refine ⟨Nat.lt_of_not_le fun h2 => h (hm8.mem.fresh b h2), ?_⟩
        cases hx : S b with
        | false => rfl
        | true => exact (h (htagS b hx)).elim
      · have h2 := (hm8.mem.hs.mp b h).1
        refine ⟨hm8.mem.hs.lt false b h2, ?_⟩
        cases hx : S b with
        | false => rfl
        | true => have := hfoS b hx; rw [h2] at this; cases this
      · subst h; exact ⟨heap_lt hl4, hSl⟩
      · exact ⟨Nat.lt_of_lt_of_le (hfo b (hl.mf b (hl.lp b h))) hWsz, hSf b (hl.mf b (hl.lp b h))⟩
    refine ⟨!jump.isNone, fo', mp', by simp, ⟨g6, st4, hm8, ⟨?_, fun f => hg6μ f l (by simp), ?_, (hfo' l).2 ⟨heap_lt hl4, hSl⟩, (hmp' l).2 (.inr (.inr (.inl rfl))), fun b hb => (hmp' b).2 (.inl hb), fun b hb => (hmp' b).2 (.inr (.inl hb)), fun b hb => (hmp' b).2 (.inr (.inr (.inr hb))), hmf, fun f b o hb => ?_, fun q b hb => ?_⟩, ?_⟩, hWsz, ?_, ?_, ?_, fun b hlt hb => ?_, fun b hb => ?_, hmf, fun b hb => (hfo' b).1 hb⟩
    · exact (hm7.mem.old true l hlfr).2
    · exact (hm7.mem.hs.lp l ((hlp1 l).2 (.inr (.inl rfl)))).2.1
    · refine (hfo' b).2 ⟨heap_lt ((hm8.mem.imm f).1 b o hb), ?_⟩
      cases hx : S b with
      | false => rfl
      | true => rw [hg6μ f b (by simp [hx])] at hb; cases hb
    · refine (hfo' b).2 ⟨hm8.mem.hs.lt q b hb, ?_⟩
      cases q
      · cases hx : S b with
        | false => rfl
        | true => have := hfoS b hx; rw [show g6.fo b = true from hb] at this; cases this
      · exact hSf b (hl.fr true b hb)
    · rcases hcase with ⟨rfl, h⟩ | ⟨e, j, rfl, h1, h2⟩
      · exact .inl ⟨rfl, h.1, h.2, hl4⟩
      · exact .inr ⟨rfl, e, j, h1, h2, hl4⟩
    · exact hm8.mem.os.trans hm.mem.os.symm
    · exact hm8.mem.tape.trans hm.mem.tape.symm
    · exact hm8.mem.output.trans hm.mem.output.symm
    · have h1 := hnmp b hb
      exact hF4 b ((hfr1 b).2 ⟨hlt, h1.1, h1.2.1⟩) h1.2.2.1
    · by_cases hlt : b < W.heap.size
      · left
        cases hx : mp b with
        | true => rfl
        | false =>
          have h1 := hnmp b hx
          have h2 : fr1 b = true := (hfr1 b).2 ⟨hlt, h1.1, h1.2.1⟩
          rcases (hmp' b).1 hb with h | h | h | h
          · exact (h (hm7.mem.old true b h2).2).elim
          · have := hm7.mem.hs.nf b h2; rw [h] at this; cases this
          · exact (h1.2.2.1 h).elim
          · rw [h1.2.2.2] at h; cases h
      · exact .inr (by omega)
  cases e3 with
  | normal =>
    obtain ⟨g5, hm6⟩ := StLe.auto (C := C3 w2) hk3.2 g3 am w3 hm5
    exact fin none g5 _ hm6 (.inl ⟨rfl, hk3.1, rfl⟩)
  | ret => exact fin (some .ret) g3 _ hm5 (.inr ⟨.ret, .ret, rfl, .inl ⟨rfl, rfl⟩, hk3⟩)
  | exit i => exact fin (some (.exit i)) g3 _ hm5 (.inr ⟨.exit i, .exit i, rfl, .inr ⟨i, rfl, rfl⟩, hk3⟩)
  | goto _ => exact hk3.elim
  | panic _ => exact hk3.elim
  | outgrown => exact hk3.elim

theorem RangeW.it (hT : TabOk P T) (hnp : ∀ b, pin.np b = false) (hmk : pin.ho.ro = none → pin.ho.mks = true) {f : Operand} {ps : List Nat} {as c : Code} {st : St} {K : Exit → St → Prop} {fi : FuncId} {lb : List SV} {xs : List (List SV)} (it : ItCtr P fi lb xs)
    (tm0 : List (Nat × SV)) (B : List (List SV) → List (Option Bx)) (R : List (List SV) → List Rw) (J : List (List SV) → Prop) (hJ0' : J []) (h0 : leA ⟨P, w0, N, kp, pin, false⟩ st ⟨tm0, B [], R []⟩) (hf : (⟨tm0, B [], R []⟩ : St).ev f = .clo fi lb) (himm : immVL lb = true) (hlen : ∀ d ∈ xs, d.length = ps.length)
    (hround : ∀ pre d, (pre ++ [d]) <+: xs → J pre → ∀ ρ σ μ ho', ho'.yd = pin.ho.yd → ho'.ro.isSome = true → runC T ⟨P, w0, N, kp, ⟨(B pre).length, (R pre).length, ρ, σ, μ, pin.np, ho'⟩, false⟩ as ⟨setPs ps d tm0, B pre, R pre⟩
      (asK T P w0 N kp ⟨(B pre).length, (R pre).length, ρ, σ, μ, pin.np, ho'⟩ c (rdK ⟨P, w0, N, kp, pin, false⟩ (J (pre ++ [d])) tm0 (B (pre ++ [d])) (R (pre ++ [d])) K)) ⟨⟩)
    (hdone : J xs → K .normal ⟨tm0, B xs, R xs⟩) : RangeW ⟨P, w0, N, kp, pin, false⟩ f ps as c st K ⟨⟩ := fun hd g a w hm => by
  simp only [dstOk, Bool.and_eq_true] at hd
  obtain ⟨⟨hpsN, hdas⟩, hdc⟩ := hd
  have hpsN : ∀ p ∈ ps, p < N := fun p hp => by simpa using List.all_eq_true.1 hpsN p hp
  obtain ⟨g0, hm0⟩ := StLe.auto h0 g a w hm
  have hev := rel_ev hm0.tm f
  rw [hf] at hev
  obtain ⟨cs, hev, hcs⟩ := hev
  let C : Cx := ⟨P, w0, N, kp, pin, false⟩
  refine wpIn_rangeFunc fun fn hfn => ?_
  have hro : ∀ l, pin.ho.ro = some l → ∃ r, w.heap[l]? = some (.loop r) := fun l hl => by
    obtain ⟨h1, r, h2⟩ := hm0.mem.hs.ro l hl
    exact ⟨r, (hm0.mem.old true l h1).1.trans h2⟩
  obtain ⟨l, Dd, ms, w1, he, hl1, hl2, hbel, hl3, hms, hnd, hmk2⟩ := enter_loop (P := P) (w := w) (ro := pin.ho.ro) (mks := pin.ho.mks) hmk hro fn a.tmps ps.toArray as c
  obtain ⟨fu, e1, e2, e3⟩ := it.1
  have eg : ∀ args (w : World), (callFunc fi args).run P w = .ok (.enter fi args) w := fun args w => by
    simp only [callFunc, Sem.run_bind, run_program, Result.andThen_ok, e1, e2, e3]
    simp
  let am : Act := { a with defers := ms.map markOf ++ a.defers }
  let rc : LoopState → Option Code → Loop := fun st pe => { state := st, pending := pe, fn, tmps := am.tmps, params := ps.toArray, assign := as, body := c, defers := Dd }
  -- the ghost behind the head
  have hE := hm0.mem.ext hbel
  let g1 : Gh := { g0 with μ := fun f => if f = true then g0.μ true else fun b => if b ∈ ms then some (.deferred (some [])) else g0.μ false b }
  have hμlt : ∀ f b o, g0.μ f b = some o → b < w.heap.size := fun f b o h => heap_lt ((hm0.mem.imm f).1 b o h)
  have hle : g0.Le g1 := ⟨Nat.le_refl _, Nat.le_refl _, fun _ _ => rfl, fun _ _ => rfl, fun f b o h => by
    cases f
    · have : b ∉ ms := fun hb => by have := (hms b hb).1; have := hμlt false b o h; omega
      show (if b ∈ ms then _ else _) = _
      rw [if_neg this]; exact h
    · exact h⟩
  have hg1 : ∀ f b o, g1.μ f b = some o → g0.μ f b = some o ∨ (b ∈ ms ∧ f = false ∧ o = .deferred (some [])) := fun f b o h => by
    cases f
    · have h : (if b ∈ ms then some (.deferred (some [])) else g0.μ false b) = some o := h
      split at h
      · cases h; exact .inr ⟨by assumption, rfl, rfl⟩
      · exact .inl h
    · exact .inl h
  obtain ⟨ds, d1, d2, d3, d4⟩ := hm0.tm.defers
  have hm1 : Mod C g1 ⟨tm0, B [], R []⟩ am w1 := by
    have hpin := hm0.tm.pin.mono hle
    refine ⟨⟨hm0.tm.nb, hm0.tm.nr, ⟨ms ++ ds, by simp [am, d1], fun D hD => ?_, ?_, fun h => by rw [hmk2 h, d4 h]; rfl⟩, hm0.tm.size, fun t => rel_mono hle _ _ (hm0.tm.tm t), fun k s e hk => (hm0.tm.frz k s e hk).mono hle.μ, hpin⟩,
      hE.os, hE.tape, hE.output, hE.size, hE.old, hE.fresh, fun k b hk => ?_, fun k e s els hk => ?_, fun f => ⟨fun b o hb => ?_, fun b o hb => ?_⟩, hE.keep, hE.np, hE.hs.next rfl rfl rfl (Nat.le_refl _) (fun f b o hb => ?_) fun k s ys hk => ⟨k, hk⟩⟩
    · rcases List.mem_append.1 hD with hD | hD
      · refine ⟨by show (if D ∈ ms then _ else _) = _; rw [if_pos hD], Nat.le_trans hm0.mem.size (hms D hD).1, ?_⟩
        show g0.fo D = false
        cases hx : g0.fo D with
        | false => rfl
        | true => have := hm0.mem.hs.lt false D hx; have := (hms D hD).1; omega
      · exact ⟨hle.μ false _ _ (d2 D hD).1, (d2 D hD).2⟩
    · rw [List.nodup_append]
      refine ⟨hnd, d3, fun x hx y hy e => ?_⟩
      subst e
      have := (hms x hx).1
      have := hμlt false x _ (d2 x hy).1
      omega
    · obtain ⟨h4, cs, h5, h6⟩ := hE.box k b hk
      exact ⟨h4, cs, h5, rels_mono hle _ _ h6⟩
    · obtain ⟨h4, h5⟩ := hE.row k e s els hk
      exact ⟨h4.mono hle.μ, h5⟩
    · rcases hg1 f b o hb with h | ⟨h, rfl, rfl⟩
      · exact (hE.imm f).1 b o h
      · exact (hms b h).2.2
    · rcases hg1 f b o hb with h | ⟨h, rfl, rfl⟩
      · exact (hE.imm f).2 b o h
      · exact hm0.mem.fresh b (hms b h).1
    · rcases hg1 f b o hb with h | ⟨h, rfl, rfl⟩
      · exact .inl h
      · refine .inr ⟨?_, ?_⟩
        · cases hx : g0.mp b with
          | false => rfl
          | true => have := hm0.mem.hs.lt false b (hm0.mem.hs.mp b hx).1; have := (hms b h).1; omega
        · show pin.ho.lp b = false
          cases hx : pin.ho.lp b with
          | false => rfl
          | true => have := hm0.mem.hs.lt true b (hm0.mem.hs.lp b hx).1; have := (hms b h).1; omega
  have hnfl : ∀ {fo : Nat → Bool}, frS C fo true l = true → False := fun {fo} h => by
    have := hm0.mem.hs.lt true l h; omega
  have hfl : g1.fo l = false := by
    show g0.fo l = false
    cases hx : g0.fo l with
    | false => rfl
    | true => have := hm0.mem.hs.lt false l hx; omega
  have hml : ∀ f, g1.μ f l = none := fun f => by
    cases hx : g1.μ f l with
    | none => rfl
    | some o =>
      rcases hg1 f l o hx with h | ⟨h, _⟩
      · have := hμlt f l o h; omega
      · exact ((hms l h).2.1 rfl).elim
  let fo1 : Nat → Bool := fun b => decide (b < w1.heap.size)
  let mp1 : Nat → Bool := fun b => !tI (g1.tag b) || (g1.mp b || ((b == l) || pin.ho.lp b))
  have hmp1 : ∀ b, mp1 b = true ↔ (g1.tag b ≠ .imm ∨ g1.mp b = true ∨ b = l ∨ pin.ho.lp b = true) := fun b => by
    simp only [mp1, Bool.or_eq_true, Bool.not_eq_true', tI_not, beq_iff_eq]
  have hmplt : ∀ b, mp1 b = true → b < w1.heap.size := fun b hb => by
    rcases (hmp1 b).1 hb with h | h | h | h
    · exact Nat.lt_of_not_le fun h2 => h (hm1.mem.fresh b h2)
    · exact hm1.mem.hs.lt false b (hm1.mem.hs.mp b h).1
    · subst h; exact hl2
    · exact hm1.mem.hs.lt true b (hm1.mem.hs.lp b h).1
  let μi : Mu := fun f => cellsH (g1.μ f)
  let yd : Yd := ⟨l, JC C l rc (fun ys => ⟨tm0, B ys, R ys⟩) J K am⟩
  have hok : YdOk P w1.heap.size (μi true) yd xs := by
    refine ⟨fun s ys fo mp W W' fo' h hb hs h1 h2 h3 hf => JC.frame (C := C) (l := l) (rec := rc) (I := fun ys => ⟨tm0, B ys, R ys⟩) (J := J) (K := K) (am := am) h hb hs h1 h2 h3 hf, fun ys d fo mp W S μ vs hJ hpre hfo hmpfo hS hμ1 hμ2 hμ3 himm hvs => ?_⟩
    exact JC.step (F := fun _ => True) (fun _ _ => trivial) (base := w1.heap.size) (kp1 := μi true) (Dd := Dd) (fn := fn) hT hnp hnfl rfl hm1.mem.size (fun b o h => (hm1.mem.keep b o (cellsH_some h).1).1) hdas hdc hpsN hlen (fun pre d h1 h2 ρ σ μ ho' h3 h4 => by rw [asKF_true]; exact hround pre d h1 h2 ρ σ μ ho' h3 h4) hJ hpre hfo hS hμ1 hμ2 hμ3 himm hvs
  have hJ0 : JC C l rc (fun ys => ⟨tm0, B ys, R ys⟩) J K am false [] fo1 mp1 w1 := by
    refine ⟨g1, _, hm1, ⟨hm0.mem.fresh l hl1, hml, hfl, by simp [fo1, hl2], (hmp1 l).2 (.inr (.inr (.inl rfl))), fun b h => (hmp1 b).2 (.inl h), fun b h => (hmp1 b).2 (.inr (.inl h)), fun b h => (hmp1 b).2 (.inr (.inr (.inr h))), fun b h => by simpa [fo1] using hmplt b h, fun f b o h => by simpa [fo1] using heap_lt ((hm1.mem.imm f).1 b o h), fun q b h => by simpa [fo1] using hm1.mem.hs.lt q b h⟩, .inl ⟨rfl, hJ0', rfl, hl3⟩⟩
  have hcall := it.2 w1 μi mp1 yd cs.toList (fun f b o h => (hm1.mem.imm f).1 b o (cellsH_some h).1) (fun f b o h => by
      obtain ⟨h1, h2⟩ := cellsH_some h
      cases hx : mp1 b with
      | false => rfl
      | true =>
        rcases (hmp1 b).1 hx with h3 | h3 | h3 | h3
        · exact (h3 ((hm1.mem.imm f).2 b o h1)).elim
        · have := (hm1.mem.hs.mp b h3).2 f; rw [h1] at this; cases this
        · subst h3; rw [hml f] at h1; cases h1
        · have := (hm1.mem.hs.lp b h3).2.2 f o h1; rw [h2] at this; cases this) hmplt
    (rels_imm (g := g1) (g' := gMu μi w1) (fun f ad v hv => cellsH_cell hv) lb _ himm (rels_mono hle _ _ hcs)) hok hJ0
  refine ⟨l, ms.map markOf, w1, { target := .fn (.func fi) cs, args := #[.func (.yield l) #[] #[]] }, w1, fi, #[.func (.yield l) #[] #[]] ++ cs, w1, ?_, ?_, fun f' _ => Fx_fn _ f', ?_, fun h => by rw [Fx_depth] at h; simp at h, ?_⟩
  · rw [Fx_round]; exact he
  · simp only [resolve, hev]
    simp [go_sem]
  · simp [invoke, go_sem, eg]
  · have e5 : (#[.func (.yield l) #[] #[]] ++ cs : Array Value) = (.func (.yield l) #[] #[] :: cs.toList).toArray := by
      apply Array.ext'
      simp
    rw [e5]
    refine callsIn_Fx (hcall.mono fun e w3 ⟨⟨v, hv⟩, s, ys, fo, mp, hJ, hs⟩ => ?_)
    subst hv
    obtain ⟨gc, stc, hmc, hlf, hcase⟩ := hJ
    have hmod : ∀ r : Loop, Mod C gc stc am (w3.putObj l (.loop r)) := fun r => hmc.frame (by simp) rfl rfl rfl fun b hb => World.putObj_heap_other fun e => by
      subst e
      rcases hb with h | ⟨f, o, h⟩ | ⟨q, h⟩
      · exact h hlf.tl
      · rw [hlf.ml f] at h; cases h
      · cases q
        · have h2 := hlf.fl; rw [show gc.fo b = true from h] at h2; cases h2
        · exact hnfl h
    rcases hcase with ⟨rfl, hjx, rfl, hr⟩ | ⟨rfl, e, jump, hej, hK, hr⟩
    · refine ⟨none, _, run_endLoop hr (by simp [rc]), ?_⟩
      have := hs rfl
      subst this
      exact ⟨gc, _, hdone hjx, hmod _⟩
    · refine ⟨some jump, _, run_endLoop hr (by simp [rc]), ?_⟩
      rcases hej with ⟨rfl, rfl⟩ | ⟨i, rfl, rfl⟩
      · exact wpIn_ret ⟨gc, _, hK, hmod _⟩
      · exact wpIn_exit ⟨gc, _, hK, hmod _⟩
end
end Go.Vx
