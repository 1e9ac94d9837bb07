/-
  ImposeTexts: whatever the scheme and the text that it is given, it answers true, and its arguments read as they did. No condition.
-/
import Derived.Test.YtgiegokdcmkfeaaGreatDoorVLaid
import Derived.Test.YtgiegokdcmkfeaaGreatDoorVGG
import Derived.JoinedCond
namespace Go.Proofs.YtgiegokdcmkfeaaGreatDoor.imposeTexts
open Go Go.Vx Go.ChangeShapes Go.WideShapes Go.ChangeAt Go.RowKit
set_option linter.unusedVariables false
set_option linter.unusedSimpArgs false
theorem wf_i64 {n : Int} (h : (Lit.int .i64 n).wf = true) : I64 n := by
  simp [Lit.wf, IntKind.min, IntKind.max, IntKind.signed, IntKind.bits] at h
  exact h
theorem own : ownKnob Tryz.prog.godebug = none := by kernel_rfl
theorem shs : Tryz.f4.params.toList.mapM (shOf Tryz.prog 9) = some [[.int .i64, .int .i64, .sl [.int .i64, .int .i64, .int .i64, .int .i64]], [.str]] := by kernel_rfl
theorem laid : laidOutB Tryz.prog = true := by kernel_rfl
theorem sh_list {α : Type} {f : α → List D} {Q : α → Prop} : ∀ {els : List (List D)}, (∀ e ∈ els, ∃ a, e = f a ∧ Q a) → ∃ l : List α, els = l.map f ∧ ∀ a ∈ l, Q a
  | [], _ => ⟨[], rfl, by simp⟩
  | e :: els, h => by
    obtain ⟨a, rfl, h1⟩ := h e (by simp)
    obtain ⟨l, rfl, h2⟩ := sh_list fun x hx => h x (List.mem_cons_of_mem _ hx)
    exact ⟨a :: l, rfl, by simpa using ⟨h1, h2⟩⟩
theorem sh_cells {els : List (List D)} (h : ∀ e ∈ els, HasShL [.int .i64, .int .i64, .int .i64, .int .i64] e) : ∃ l : List Cell, els = l.map eC ∧ ∀ x ∈ l, CelI x :=
  sh_list fun e he => by
    have := h e he
    simp only [HasShL, HasSh] at this
    obtain ⟨_, _, rfl, ⟨a, rfl, ha⟩, _, _, rfl, ⟨b, rfl, hb⟩, _, _, rfl, ⟨c, rfl, hc⟩, _, _, rfl, ⟨d, rfl, hd⟩, rfl⟩ := this
    exact ⟨⟨a, b, c, d⟩, rfl, wf_i64 ha, wf_i64 hb, wf_i64 hc, wf_i64 hd⟩
theorem law (dss : List (List D)) (h : HasShLL [[.int .i64, .int .i64, .sl [.int .i64, .int .i64, .int .i64, .int .i64]], [.str]] dss) : CtrK glob Tryz.prog 4 (argsSV Tryz.prog Tryz.f4.params.toList dss) (fun rr => rr = ⟨.v (.bool true), []⟩) := by
  simp only [HasShLL, HasShL, HasSh] at h
  obtain ⟨_, _, rfl, ⟨_, _, rfl, ⟨c, rfl, -⟩, _, _, rfl, ⟨r, rfl, -⟩, _, _, rfl, ⟨els, rfl, hl, he⟩, rfl⟩, _, _, rfl, ⟨_, _, rfl, ⟨t, rfl, ht⟩, rfl⟩, rfl⟩ := h
  obtain ⟨l, rfl, hI⟩ := sh_cells he
  have e1 : Tryz.f4.params.toList = [29, 9] := by rw [Tryz.params4]
  rw [e1]
  simp only [argsSV, argSV, Tryz.underlying29, Tryz.underlying9, ofDL, ofD]
  have := law_texts c r l t.data.toList hI (by simpa using hl)
  rw [bs_data] at this
  exact this
theorem reads (os : Os) {H : Type} (enc : TypeId × Value → H) : ∃ places, DataW.whole enc Tryz.prog ((laidWorld os).forCall (fun _ _ => 0) ⟨#[], #[.agg #[.int .i64 0, .int .i64 0, .slice none 0 0], .string ⟨#[]⟩], []⟩).memory Tryz.f4.params.toList Rows.imposeTextsSpec.vars false #[Value.agg #[.int .i64 0, .int .i64 0, .slice none 0 0], .string ⟨#[]⟩].toList 8 = some ([.agg [.lit (.int .i64 0), .lit (.int .i64 0), .nil], .lit (.string [])], [], places) :=
  ⟨[], by kernel_rfl⟩
set_option maxRecDepth 100000 in
theorem lifted (os : Os) (started : os.Started) (H : Type) (enc : TypeId × Value → H) (F : Stop.Interp) :
    ReturnsInHanded {} Tryz.checked os 4 .any ((OpenSpec.ofChange Rows.imposeTextsSpec).preRow enc Tryz.prog Tryz.f4 Rows.imposeTextsRow.domain false Rows.imposeTextsRow.laid) (((OpenSpec.ofChange Rows.imposeTextsSpec).at F).post enc Tryz.prog Tryz.f4 false true false false) := by
  obtain ⟨places, hx⟩ := reads os enc
  refine returnsInHanded_of_row (C := Tryz.checked) (s := OpenSpec.ofChange Rows.imposeTextsSpec) own started (by kernel_rfl) Tryz.func4
    (witness_row_at (enc := enc) (C := Tryz.checked) false (laidWorld os) #[.agg #[.int .i64 0, .int .i64 0, .slice none 0 0], .string ⟨#[]⟩] rfl (by kernel_rfl) (by kernel_rfl) (by kernel_rfl)
      (OpenSpec.preRow_of_cond 8 hx (by kernel_rfl) (fun k hk => by cases hk) (by kernel_rfl) (laid_met os _))) ?_
  intro W base args ds gs before hval hW _ _ _ hL hSh _
  refine law_contractK laid (by rw [Tryz.params4]; intro t ht; simp at ht; rcases ht with rfl | rfl <;> exact ⟨by kernel_rfl, of_decide_eq_true (by kernel_rfl)⟩) rfl (tb := 4) (by kernel_rfl) Tryz.underlying4 (fun ds hds => ?_) shs law W base args ds gs before (glob_of hL hSh) hval hW
  rw [Tryz.params4] at hds
  match ds, hds with
  | [d1, d2], _ => rfl
theorem said : Rows.ImposeTextsSaid :=
  OpenClaim.holds_of_cond 4 Tryz.f4 rfl rfl rfl rfl rfl rfl rfl ⟨rfl, rfl, rfl, rfl, rfl⟩ rfl rfl rfl rfl rfl (by kernel_rfl) Tryz.func4 (by kernel_rfl)
    (of_decide_eq_true (by kernel_rfl)) (by unfold Func.isWrapper; first | (rw [if_pos (by decide +kernel)]; kernel_rfl) | (rw [if_neg (by decide +kernel)]; exact ⟨rfl, rfl⟩))
    (fun os started H enc _ F => by rw [OpenClaim.pre_eq_preRow]; exact lifted os started H enc F)
theorem plain (f : FuncId) (fn : Func) (hf : Tryz.pinned.checked.prog.funcNamed "tympan/tympanlaw06.ImposeTexts" = some f) (hfn : Tryz.pinned.checked.prog.funcs[f]? = some fn) :
    true = Tryz.pinned.checked.prog.looks [] ∧ ∀ (j : Nat) t, fn.params[j]? = some t → Tryz.pinned.checked.prog.wantsStandIn t = false := by
  obtain rfl : f = 4 := Option.some.inj ((show Tryz.prog.funcNamed "tympan/tympanlaw06.ImposeTexts" = some 4 by kernel_rfl).symm.trans hf) |>.symm
  obtain rfl : fn = Tryz.f4 := (Option.some.inj (Tryz.func4.symm.trans hfn)).symm
  refine ⟨by kernel_rfl, fun j t ht => ?_⟩
  rw [Tryz.params4] at ht
  have hm := Array.mem_of_getElem? ht
  simp at hm
  rcases hm with rfl | rfl
  · exact (show Tryz.prog.wantsStandIn 29 = false by kernel_rfl)
  · exact (show Tryz.prog.wantsStandIn 9 = false by kernel_rfl)
theorem proved : Rows.ImposeTextsCardSaid :=
  Claim7.holds_tied_plain_at .later [] _ _ _ _ said (fun _ h => by cases h) (by kernel_rfl) (fun _ h => by cases h) imposeTexts_row_tie rfl ⟨rfl, rfl⟩ (by kernel_rfl) rfl plain (by kernel_rfl)
end Go.Proofs.YtgiegokdcmkfeaaGreatDoor.imposeTexts
