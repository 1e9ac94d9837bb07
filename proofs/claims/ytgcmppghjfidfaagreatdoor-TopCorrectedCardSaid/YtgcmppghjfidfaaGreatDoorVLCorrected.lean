/-
 TopCorrected: whatever the fount with rules, the copy and the marks that it is given, it answers true, and its arguments read as they did. No condition.
-/
import Derived.Test.YtgcmppghjfidfaaGreatDoorVLaidC
import Derived.Test.YtgcmppghjfidfaaGreatDoorVGE
import Derived.JoinedCond
namespace Go.Proofs.YtgcmppghjfidfaaGreatDoor.topCorrected
open Go Go.Vx Go.ChangeShapes Go.WideShapes Go.ChangeAt Go.RowKit
set_option linter.unusedVariables false
set_option linter.unusedSimpArgs false
theorem own : ownKnob Tryz.prog.godebug = none := by kernel_rfl
theorem shs : Tryz.f4.params.toList.mapM (shOf Tryz.prog 9) = some [[.str, .int .i64, .sl [.str, .str, .int .i64, .int .i64], .sl [.str], .sl [.str], .sl [.str], .int .i64, .int .i64], [.sl [.int .i64, .sl [.str]]], [.sl [.int .i64, .int .i64, .int .i64, .str, .str, .int .i64, .int .i64]]] := by kernel_rfl
theorem laid : laidOutB Tryz.prog = true := by kernel_rfl
theorem sh_list {α : Type} {f : α → List D} {Q : α → Prop} : ∀ {els : List (List D)}, (∀ e ∈ els, ∃ a, e = f a ∧ Q a) → ∃ l : List α, els = l.map f ∧ ∀ a ∈ l, Q a
 | [], _ => ⟨[], rfl, by simp⟩
 | e :: els, h => by
  obtain ⟨a, rfl, h1⟩ := h e (by simp)
  obtain ⟨l, rfl, h2⟩ := sh_list fun x hx => h x (List.mem_cons_of_mem _ hx)
  exact ⟨a :: l, rfl, by simpa using ⟨h1, h2⟩⟩
theorem sh_marks {els : List (List D)} (h : ∀ e ∈ els, HasShL [.int .i64, .int .i64, .int .i64, .str, .str, .int .i64, .int .i64] e) : ∃ l : List Mk, els = l.map eM ∧ ∀ m ∈ l, True :=
 sh_list fun e he => by
  have := h e he
  simp only [HasShL, HasSh] at this
  obtain ⟨_, _, rfl, ⟨a, rfl, ha⟩, _, _, rfl, ⟨b, rfl, hb⟩, _, _, rfl, ⟨c, rfl, hc⟩, _, _, rfl, ⟨s, rfl, hs⟩, _, _, rfl, ⟨t, rfl, ht⟩, _, _, rfl, ⟨d, rfl, hd⟩, _, _, rfl, ⟨e, rfl, hf⟩, rfl⟩ := this
  exact ⟨⟨a, b, c, s, t, d, e⟩, rfl, trivial⟩
theorem sh_strs {els : List (List D)} (h : ∀ e ∈ els, HasShL [.str] e) : ∃ l : List ByteArray, els = l.map eS ∧ ∀ s ∈ l, s.size ≤ maxLen :=
 sh_list fun e he => by
  have := h e he
  simp only [HasShL, HasSh] at this
  obtain ⟨_, _, rfl, ⟨s, rfl, hs⟩, rfl⟩ := this
  exact ⟨s, rfl, hs⟩
theorem sh_copy {els : List (List D)} (h : ∀ e ∈ els, HasShL [.int .i64, .sl [.str]] e) : ∃ l : List Pt, els = l.map (eP true) ∧ ∀ p ∈ l, p.words.length ≤ maxLen :=
 sh_list fun e he => by
  have := h e he
  simp only [HasShL, HasSh] at this
  obtain ⟨_, _, rfl, ⟨a, rfl, ha⟩, _, _, rfl, ⟨els, rfl, hl, hm⟩, rfl⟩ := this
  obtain ⟨l, rfl, h2⟩ := sh_strs hm
  exact ⟨⟨a, l⟩, rfl, by simpa using hl⟩
theorem sh_sorts {els : List (List D)} (h : ∀ e ∈ els, HasShL [.str, .str, .int .i64, .int .i64] e) : ∃ l : List Srt, els = l.map eT ∧ ∀ s ∈ l, True :=
 sh_list fun e he => by
  have := h e he
  simp only [HasShL, HasSh] at this
  obtain ⟨_, _, rfl, ⟨s, rfl, hs⟩, _, _, rfl, ⟨t, rfl, ht⟩, _, _, rfl, ⟨a, rfl, ha⟩, _, _, rfl, ⟨b, rfl, hb⟩, rfl⟩ := this
  exact ⟨⟨s, t, a, b⟩, rfl, trivial⟩
theorem law (dss : List (List D)) (h : HasShLL [[.str, .int .i64, .sl [.str, .str, .int .i64, .int .i64], .sl [.str], .sl [.str], .sl [.str], .int .i64, .int .i64], [.sl [.int .i64, .sl [.str]]], [.sl [.int .i64, .int .i64, .int .i64, .str, .str, .int .i64, .int .i64]]] dss) : CtrK glob Tryz.prog 4 (argsSV Tryz.prog Tryz.f4.params.toList dss) (fun rr => rr = ⟨.v (.bool true), []⟩) := by
 simp only [HasShLL, HasShL, HasSh] at h
 obtain ⟨_, _, rfl, ⟨_, _, rfl, ⟨n, rfl, hn⟩, _, _, rfl, ⟨bd, rfl, hbd⟩, _, _, rfl, ⟨ss, rfl, sl, sh⟩, _, _, rfl, ⟨ps, rfl, pl, ph⟩, _, _, rfl, ⟨xs, rfl, xl, xh⟩, _, _, rfl, ⟨bs, rfl, bl, bh⟩, _, _, rfl, ⟨lf, rfl, hlf⟩, _, _, rfl, ⟨rt, rfl, hrt⟩, rfl⟩, _, _, rfl, ⟨_, _, rfl, ⟨x0s, rfl, x0l, x0h⟩, rfl⟩, _, _, rfl, ⟨_, _, rfl, ⟨x1s, rfl, x1l, x1h⟩, rfl⟩, rfl⟩ := h
 obtain ⟨l, rfl, -⟩ := sh_sorts sh
 obtain ⟨pt, rfl, -⟩ := sh_strs ph
 obtain ⟨ex, rfl, -⟩ := sh_strs xh
 obtain ⟨br, rfl, -⟩ := sh_strs bh
 obtain ⟨x0, rfl, x0i⟩ := sh_copy x0h
 obtain ⟨x1, rfl, x1i⟩ := sh_marks x1h
 have e1 : Tryz.f4.params.toList = [55, 22, 23] := by rw [Tryz.params4]
 rw [e1]
 simp only [argsSV, argSV, Tryz.underlying55, Tryz.underlying22, Tryz.underlying23, ofDL, ofD]
 exact correctedLaw_s n bd l pt ex br lf rt x0 x1 (by simpa using sl) (by simpa using pl) (by simpa using xl) (by simpa using bl) (by simpa using x0l) x0i (by simpa using x1l)
theorem reads (os : Os) {H : Type} (enc : TypeId × Value → H) : ∃ places, DataW.whole enc Tryz.prog ((laidWorld os).forCall (fun _ _ => 0) ⟨#[], #[.agg #[.string ⟨#[]⟩, .int .i64 0, .slice none 0 0, .slice none 0 0, .slice none 0 0, .slice none 0 0, .int .i64 0, .int .i64 0], .slice none 0 0, .slice none 0 0], []⟩).memory Tryz.f4.params.toList Rows.topCorrectedSpec.vars false #[Value.agg #[.string ⟨#[]⟩, .int .i64 0, .slice none 0 0, .slice none 0 0, .slice none 0 0, .slice none 0 0, .int .i64 0, .int .i64 0], .slice none 0 0, .slice none 0 0].toList 8 = some ([.agg [.agg [.lit (.string []), .lit (.int .i64 0), .nil], .agg [.nil, .nil, .nil, .lit (.int .i64 0), .lit (.int .i64 0)]], .nil, .nil], [], places) :=
 ⟨[], by kernel_rfl⟩
set_option maxRecDepth 100000 in
theorem lifted (os : Os) (started : os.Started) (H : Type) (enc : TypeId × Value → H) (F : Stop.Interp) :
  ReturnsInHanded {} Tryz.checked os 4 .any ((OpenSpec.ofChange Rows.topCorrectedSpec).preRow enc Tryz.prog Tryz.f4 Rows.topCorrectedRow.domain false Rows.topCorrectedRow.laid) (((OpenSpec.ofChange Rows.topCorrectedSpec).at F).post enc Tryz.prog Tryz.f4 false true false false) := by
 obtain ⟨places, hx⟩ := reads os enc
 refine returnsInHanded_of_row (C := Tryz.checked) (s := OpenSpec.ofChange Rows.topCorrectedSpec) own started (by kernel_rfl) Tryz.func4
  (witness_row_at (enc := enc) (C := Tryz.checked) false (laidWorld os) #[.agg #[.string ⟨#[]⟩, .int .i64 0, .slice none 0 0, .slice none 0 0, .slice none 0 0, .slice none 0 0, .int .i64 0, .int .i64 0], .slice none 0 0, .slice none 0 0] rfl (by kernel_rfl) (by kernel_rfl) (by kernel_rfl)
   (OpenSpec.preRow_of_cond 8 hx (by kernel_rfl) (fun k hk => by cases hk) (by kernel_rfl) (laid_met os _))) ?_
 intro W base args ds gs before hval hW _ _ _ hL hSh _
 refine law_contractK laid (by rw [Tryz.params4]; intro t ht; simp at ht; rcases ht with rfl | rfl | rfl <;> exact ⟨by kernel_rfl, of_decide_eq_true (by kernel_rfl)⟩) rfl (tb := 4) (by kernel_rfl) Tryz.underlying4 (fun ds hds => ?_) shs law W base args ds gs before (glob_of hSh) hval hW
 rw [Tryz.params4] at hds
 match ds, hds with
 | [d1, d2, d3], _ => rfl
theorem said : Rows.TopCorrectedSaid :=
 OpenClaim.holds_of_cond 4 Tryz.f4 rfl rfl rfl rfl rfl rfl rfl ⟨rfl, rfl, rfl, rfl, rfl⟩ rfl rfl rfl rfl rfl (by kernel_rfl) Tryz.func4 (by kernel_rfl)
  (of_decide_eq_true (by kernel_rfl)) (by unfold Func.isWrapper; first | (rw [if_pos (by decide +kernel)]; kernel_rfl) | (rw [if_neg (by decide +kernel)]; exact ⟨rfl, rfl⟩))
  (fun os started H enc _ F => by rw [OpenClaim.pre_eq_preRow]; exact lifted os started H enc F)
theorem plain (f : FuncId) (fn : Func) (hf : Tryz.pinned.checked.prog.funcNamed "tympan/tympantop.TopCorrected" = some f) (hfn : Tryz.pinned.checked.prog.funcs[f]? = some fn) :
  true = Tryz.pinned.checked.prog.looks [] ∧ ∀ (j : Nat) t, fn.params[j]? = some t → Tryz.pinned.checked.prog.wantsStandIn t = false := by
 obtain rfl : f = 4 := Option.some.inj ((show Tryz.prog.funcNamed "tympan/tympantop.TopCorrected" = some 4 by kernel_rfl).symm.trans hf) |>.symm
 obtain rfl : fn = Tryz.f4 := (Option.some.inj (Tryz.func4.symm.trans hfn)).symm
 refine ⟨by kernel_rfl, fun j t ht => ?_⟩
 rw [Tryz.params4] at ht
 have hm := Array.mem_of_getElem? ht
 simp at hm
 rcases hm with rfl | rfl | rfl
 ·exact (show Tryz.prog.wantsStandIn 55 = false by kernel_rfl)
 ·exact (show Tryz.prog.wantsStandIn 22 = false by kernel_rfl)
 ·exact (show Tryz.prog.wantsStandIn 23 = false by kernel_rfl)
theorem proved : Rows.TopCorrectedCardSaid :=
 Claim7.holds_tied_plain_at .later [] _ _ _ _ said (fun _ h => by cases h) (by kernel_rfl) (fun _ h => by cases h) topCorrected_row_tie rfl ⟨rfl, rfl⟩ (by kernel_rfl) rfl plain (by kernel_rfl)
end Go.Proofs.YtgcmppghjfidfaaGreatDoor.topCorrected
