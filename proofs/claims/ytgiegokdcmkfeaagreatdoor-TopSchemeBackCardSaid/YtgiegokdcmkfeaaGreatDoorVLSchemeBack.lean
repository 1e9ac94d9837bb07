/-
  TopSchemeBack: whatever the sheet, the folds and the way that it is given, it answers true, and its arguments read as they did. No condition.
-/
import Derived.Test.YtgiegokdcmkfeaaGreatDoorVLaid
import Derived.Test.YtgiegokdcmkfeaaGreatDoorVGH
import Derived.JoinedCond
namespace Go.Proofs.YtgiegokdcmkfeaaGreatDoor.topSchemeBack
open Go Go.Vx Go.ChangeShapes Go.WideShapes Go.ChangeAt Go.RowKit
set_option linter.unusedVariables false
set_option linter.unusedSimpArgs false
theorem wf_i64 {n : Int} (h : (Lit.int .i64 n).wf = true) : I64 n := by
  simp [Lit.wf, IntKind.min, IntKind.max, IntKind.signed, IntKind.bits] at h
  exact h
theorem own : ownKnob Tryz.prog.godebug = none := by kernel_rfl
theorem shs : Tryz.f3.params.toList.mapM (shOf Tryz.prog 9) = some [[.int .i64, .int .i64], [.sl [.int .i64, .int .i64]], [.bool]] := by kernel_rfl
theorem laid : laidOutB Tryz.prog = true := by kernel_rfl
theorem sh_list {α : Type} {f : α → List D} {Q : α → Prop} : ∀ {els : List (List D)}, (∀ e ∈ els, ∃ a, e = f a ∧ Q a) → ∃ l : List α, els = l.map f ∧ ∀ a ∈ l, Q a
  | [], _ => ⟨[], rfl, by simp⟩
  | e :: els, h => by
    obtain ⟨a, rfl, h1⟩ := h e (by simp)
    obtain ⟨l, rfl, h2⟩ := sh_list fun x hx => h x (List.mem_cons_of_mem _ hx)
    exact ⟨a :: l, rfl, by simpa using ⟨h1, h2⟩⟩
theorem sh_folds {els : List (List D)} (h : ∀ e ∈ els, HasShL [.int .i64, .int .i64] e) : ∃ l : List Fold, els = l.map eF ∧ ∀ f ∈ l, I64 f.kind ∧ I64 f.count :=
  sh_list fun e he => by
    have := h e he
    simp only [HasShL, HasSh] at this
    obtain ⟨_, _, rfl, ⟨n, rfl, hn⟩, _, _, rfl, ⟨m, rfl, hm⟩, rfl⟩ := this
    exact ⟨⟨n, m⟩, rfl, wf_i64 hn, wf_i64 hm⟩
theorem law (dss : List (List D)) (h : HasShLL [[.int .i64, .int .i64], [.sl [.int .i64, .int .i64]], [.bool]] dss) : CtrK glob Tryz.prog 3 (argsSV Tryz.prog Tryz.f3.params.toList dss) (fun rr => rr = ⟨.v (.bool true), []⟩) := by
  simp only [HasShLL, HasShL, HasSh] at h
  obtain ⟨_, _, rfl, ⟨_, _, rfl, ⟨c, rfl, -⟩, _, _, rfl, ⟨r, rfl, -⟩, rfl⟩, _, _, rfl, ⟨_, _, rfl, ⟨els, rfl, hl, he⟩, rfl⟩, _, _, rfl, ⟨_, _, rfl, ⟨t, rfl⟩, rfl⟩, rfl⟩ := h
  obtain ⟨l, rfl, hl2⟩ := sh_folds he
  have e1 : Tryz.f3.params.toList = [22, 23, 4] := by rw [Tryz.params3]
  rw [e1]
  simp only [argsSV, argSV, Tryz.underlying22, Tryz.underlying23, Tryz.underlying4, ofDL, ofD]
  exact law_back c r l t (fun x hx => (hl2 x hx).2)
theorem reads (os : Os) {H : Type} (enc : TypeId × Value → H) : ∃ places, DataW.whole enc Tryz.prog ((laidWorld os).forCall (fun _ _ => 0) ⟨#[], #[.agg #[.int .i64 0, .int .i64 0], .slice none 0 0, .bool false], []⟩).memory Tryz.f3.params.toList Rows.topSchemeBackSpec.vars false #[Value.agg #[.int .i64 0, .int .i64 0], .slice none 0 0, .bool false].toList 8 = some ([.agg [.lit (.int .i64 0), .lit (.int .i64 0)], .nil, .lit (.bool false)], [], places) :=
  ⟨[], by kernel_rfl⟩
set_option maxRecDepth 100000 in
theorem lifted (os : Os) (started : os.Started) (H : Type) (enc : TypeId × Value → H) (F : Stop.Interp) :
    ReturnsInHanded {} Tryz.checked os 3 .any ((OpenSpec.ofChange Rows.topSchemeBackSpec).preRow enc Tryz.prog Tryz.f3 Rows.topSchemeBackRow.domain false Rows.topSchemeBackRow.laid) (((OpenSpec.ofChange Rows.topSchemeBackSpec).at F).post enc Tryz.prog Tryz.f3 false true false false) := by
  obtain ⟨places, hx⟩ := reads os enc
  refine returnsInHanded_of_row (C := Tryz.checked) (s := OpenSpec.ofChange Rows.topSchemeBackSpec) own started (by kernel_rfl) Tryz.func3
    (witness_row_at (enc := enc) (C := Tryz.checked) false (laidWorld os) #[.agg #[.int .i64 0, .int .i64 0], .slice none 0 0, .bool false] rfl (by kernel_rfl) (by kernel_rfl) (by kernel_rfl)
      (OpenSpec.preRow_of_cond 8 hx (by kernel_rfl) (fun k hk => by cases hk) (by kernel_rfl) (laid_met os _))) ?_
  intro W base args ds gs before hval hW _ _ _ hL hSh _
  refine law_contractK laid (by rw [Tryz.params3]; intro t ht; simp at ht; rcases ht with rfl | rfl | rfl <;> exact ⟨by kernel_rfl, of_decide_eq_true (by kernel_rfl)⟩) rfl (tb := 4) (by kernel_rfl) Tryz.underlying4 (fun ds hds => ?_) shs law W base args ds gs before (glob_of hL hSh) hval hW
  rw [Tryz.params3] at hds
  match ds, hds with
  | [d1, d2, d3], _ => rfl
theorem said : Rows.TopSchemeBackSaid :=
  OpenClaim.holds_of_cond 3 Tryz.f3 rfl rfl rfl rfl rfl rfl rfl ⟨rfl, rfl, rfl, rfl, rfl⟩ rfl rfl rfl rfl rfl (by kernel_rfl) Tryz.func3 (by kernel_rfl)
    (of_decide_eq_true (by kernel_rfl)) (by unfold Func.isWrapper; first | (rw [if_pos (by decide +kernel)]; kernel_rfl) | (rw [if_neg (by decide +kernel)]; exact ⟨rfl, rfl⟩))
    (fun os started H enc _ F => by rw [OpenClaim.pre_eq_preRow]; exact lifted os started H enc F)
theorem plain (f : FuncId) (fn : Func) (hf : Tryz.pinned.checked.prog.funcNamed "tympan/tympantop.TopSchemeBack" = some f) (hfn : Tryz.pinned.checked.prog.funcs[f]? = some fn) :
    true = Tryz.pinned.checked.prog.looks [] ∧ ∀ (j : Nat) t, fn.params[j]? = some t → Tryz.pinned.checked.prog.wantsStandIn t = false := by
  obtain rfl : f = 3 := Option.some.inj ((show Tryz.prog.funcNamed "tympan/tympantop.TopSchemeBack" = some 3 by kernel_rfl).symm.trans hf) |>.symm
  obtain rfl : fn = Tryz.f3 := (Option.some.inj (Tryz.func3.symm.trans hfn)).symm
  refine ⟨by kernel_rfl, fun j t ht => ?_⟩
  rw [Tryz.params3] at ht
  have hm := Array.mem_of_getElem? ht
  simp at hm
  rcases hm with rfl | rfl | rfl
  · exact (show Tryz.prog.wantsStandIn 22 = false by kernel_rfl)
  · exact (show Tryz.prog.wantsStandIn 23 = false by kernel_rfl)
  · exact (show Tryz.prog.wantsStandIn 4 = false by kernel_rfl)
theorem proved : Rows.TopSchemeBackCardSaid :=
  Claim7.holds_tied_plain_at .later [] _ _ _ _ said (fun _ h => by cases h) (by kernel_rfl) (fun _ h => by cases h) topSchemeBack_row_tie rfl ⟨rfl, rfl⟩ (by kernel_rfl) rfl plain (by kernel_rfl)
end Go.Proofs.YtgiegokdcmkfeaaGreatDoor.topSchemeBack
