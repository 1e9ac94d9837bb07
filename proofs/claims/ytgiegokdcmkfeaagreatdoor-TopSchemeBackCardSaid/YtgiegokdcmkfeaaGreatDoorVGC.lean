/-
 Chapter 6, walks: the examples of the chapter.
-/
import Derived.Test.YtgiegokdcmkfeaaGreatDoorVGB
import Derived.Test.YtgiegokdcmkfeaaGreatDoorVP6Turns
set_option linter.unusedSimpArgs false
set_option linter.unusedVariables false
namespace Go.Proofs.YtgiegokdcmkfeaaGreatDoor
open Go Go.Vx
set_option maxRecDepth 20000
theorem same_s (x y : Bool) (c r c' r' : Int) (l m : List Cell) (hl : l.length ≤ 1000000000) : Ctr Tryz.prog 13 [.agg [(.v (.int .i64 c)), (.v (.int .i64 r)), .sl x 4 (l.map eC)], .agg [(.v (.int .i64 (c'))), (.v (.int .i64 (r'))), .sl y 4 (m.map eC)]] (fun rr => rr = ⟨(.v (.bool (decide (c = c' ∧ r = r' ∧ l = m)))), []⟩) := by
 refine Ctr.of (rs := [.tmp 4]) Tok true Tryz.func13 rfl rfl rfl rfl (by simp [ofDL]) (fun w0 kp => ?_)
 simp only [↓sx0, sxE, encs, sevalprocAttr]
 refine BrW.dec (fun h1 => ?_) (fun h1 => ?_)
 ·simp only [↓sx0, sxE, encs, sevalprocAttr]
  refine EndW.fn ?_ ?_ <;> simp only [sx4, encs, kpLL_map, sxR, sevalprocAttr] <;> (try simp [h1]) <;> (try omega)
 simp only [↓sx0, sxE, encs, sevalprocAttr]
 refine BrW.dec (fun h2 => ?_) (fun h2 => ?_)
 ·simp only [↓sx0, sxE, encs, sevalprocAttr]
  refine EndW.fn ?_ ?_ <;> simp only [sx4, encs, kpLL_map, sxR, sevalprocAttr] <;> (try simp [h2]) <;> (try omega)
 simp only [↓sx0, sxE, encs, sevalprocAttr]
 refine BrW.dec (fun hn => ?_) (fun hn => ?_)
 ·simp only [↓sx0, sxE, encs, sevalprocAttr]
  have : ¬ l = m := fun h => hn (by rw [h])
  refine EndW.fn ?_ ?_ <;> simp only [sx4, encs, kpLL_map, sxR, sevalprocAttr] <;> (try simp [this]) <;> (try omega)
 ·simp only [↓sx0, sxE, encs, sevalprocAttr]
  have hn2 : l.length = m.length := by omega
  refine LoopW.comp [2, 3, 5] (by simp only [sx2, encs, sxR, sevalprocAttr] <;> (try simp) <;> (try omega)) ?_
  simp only [sx2, sxR, sevalprocAttr]
  refine LoopW.up Tok (fun k : Nat => [(5, (.v (.int .i64 k)))]) (fun k => []) (fun k => []) (fun k => []) (fun k => k ≤ l.length ∧ l.take k = m.take k) (fun k => l.length - k) (0) (by simp only [sx2, encs, sxR, sevalprocAttr] <;> (try simp) <;> (try omega)) ?_ ?_
  ·exact ⟨by omega, by simp⟩
  rintro k ⟨hk, ht⟩
  simp only [↓sx0, sxE, encs, sevalprocAttr]
  refine BrW.dec (fun hlt => ?_) (fun hlt => ?_)
  ·simp only [↓sx0, sxE, encs, sevalprocAttr]
   have g1 : k < l.length := by omega
   have g2 : k < m.length := by omega
   refine DrawW.plan Tok mixed (.q 0 <| .q 1 <| .q 2 <| .q 3 <| .q 4 <| .q 5 <| .q 6 <| .q 7 <| .q 8 <| .q 9 <| .q 10 <| .done) (by kernel_rfl) (by kernel_rfl) ?_
   simp only [↓sx0, sxE, encs, sevalprocAttr]
   refine IxW.nat g1 ?_
   simp only [↓sx0, sxE, encs, sevalprocAttr]
   refine IxW.nat g2 ?_
   simp only [↓sx0, sxE, encs, sevalprocAttr]
   refine BrW.dec (fun hne => ?_) (fun hne => ?_)
   ·simp only [↓sx0, sxE, encs, sevalprocAttr]
    have : ¬ l = m := fun h => hne (by subst h; rfl)
    refine EndW.fn ?_ ?_ <;> simp only [sx4, encs, kpLL_map, sxR, sevalprocAttr] <;> (try simp [this]) <;> (try omega)
   ·simp only [↓sx0, sxE, encs, sevalprocAttr]
    have he : l[k] = m[k] := by rw [eC_inj] at hne; exact Decidable.not_not.1 hne
    (with_reducible refine Vc.go ?_ fun _ => ?_); focus (first | omega | (simp only [InK]; omega) | (simp [InK]; done) | (simp [InK]; omega))
    simp only [↓sx0, sxE, encs, sevalprocAttr]
    refine ⟨k + 1, StLe.auto (by simp only [sx2, encs, sxR, sevalprocAttr] <;> (try simp) <;> (try omega)), ?_, ?_⟩
    ·exact ⟨g1, take_eq_succ g1 g2 ht he⟩
    ·omega
  ·simp only [↓sx0, sxE, encs, sevalprocAttr]
   have hke : k = l.length := by omega
   subst hke
   rw [List.take_length, hn2, List.take_length] at ht
   have e1 := Decidable.not_not.1 h1
   have e2 := Decidable.not_not.1 h2
   refine EndW.fn ?_ ?_ <;> simp only [sx4, encs, kpLL_map, sxR, sevalprocAttr] <;> (try simp [ht, e1, e2]) <;> (try omega)
theorem checkFolds_s (b : Bool) (c r : Int) (f : List Fold) (hf : Cnt f) : Ctr Tryz.prog 25 [.agg [(.v (.int .i64 c)), (.v (.int .i64 r))], .sl b 2 (f.map eF)] (fun rr => rr = ⟨.tup [(.v (.int .i64 ((foldedS c r f).2.1))), (.v (.int .i64 ((foldedS c r f).2.2)))], []⟩) := by
 refine Ctr.of (rs := [.tmp 4, .tmp 5]) Tok true Tryz.func25 rfl rfl rfl rfl (by simp [ofDL]) (fun w0 kp => ?_)
 simp only [↓sx0, sxE, encs, sevalprocAttr]
 refine CallI.fn (folded_s b c r f hf) (by simp only [sx3, encs, sxR, sevalprocAttr] <;> (try simp) <;> (try rfl)) ?_
 simp only [↓sx0, sxE, encs, sevalprocAttr]
 refine EndW.fn ?_ ?_ <;> simp only [sx4, encs, kpLL_map, sxR, sevalprocAttr] <;> (try simp) <;> (try omega)
end Go.Proofs.YtgiegokdcmkfeaaGreatDoor
/-
 Chapter 6, walks: views (small parts).
-/
namespace Go.Proofs.YtgiegokdcmkfeaaGreatDoor
open Go Go.Vx
set_option maxRecDepth 20000
theorem checkSheetR_s (c r : Int) : Ctr Tryz.prog 27 [(.v (.int .i64 c)), (.v (.int .i64 r))] (fun rr => rr = ⟨(.v (.int .i64 (sheetErr c r))), []⟩) := by
 refine Ctr.of (rs := [.tmp 4]) Tok true Tryz.func27 rfl rfl rfl rfl (by simp [ofDL]) (fun w0 kp => ?_)
 simp only [↓sx0, sxE, encs, sevalprocAttr]
 refine CallI.fn (withinB_s c 1 8) (by simp only [sx3, encs, sxR, sevalprocAttr] <;> (try simp) <;> (try rfl)) ?_
 simp only [↓sx0, sxE, encs, sevalprocAttr]
 refine BrW.dec (fun h => ?_) (fun h => ?_)
 ·simp only [↓sx0, sxE, encs, sevalprocAttr]
  refine CallI.fn (withinB_s r 1 8) (by simp only [sx3, encs, sxR, sevalprocAttr] <;> (try simp) <;> (try rfl)) ?_
  simp only [↓sx0, sxE, encs, sevalprocAttr]
  refine BrW.dec (fun h' => ?_) (fun h' => ?_)
  ·have b1 : c * r ≤ 8 * 8 := Int.mul_le_mul h.2 h'.2 (by omega) (by omega)
   have b2 : 0 ≤ c * r := Int.mul_nonneg (by omega) (by omega)
   simp only [↓sx0, sxE, encs, sevalprocAttr]
   (with_reducible refine Vc.go ?_ fun _ => ?_); focus (first | omega | (simp only [InK]; omega) | (simp [InK]; done) | (simp [InK]; omega))
   simp only [↓sx0, sxE, encs, sevalprocAttr]
   refine BrW.dec (fun g => ?_) (fun g => ?_)
   ·simp only [↓sx0, sxE, encs, sevalprocAttr]
    refine EndW.fn ?_ ?_ <;> simp only [sx4, encs, kpLL_map, sxR, sevalprocAttr] <;> (try simp [sheetErr, h, h', g]) <;> (try omega)
   ·simp only [↓sx0, sxE, encs, sevalprocAttr]
    refine EndW.fn ?_ ?_ <;> simp only [sx4, encs, kpLL_map, sxR, sevalprocAttr] <;> (try simp [sheetErr, h, h', g]) <;> (try omega)
  ·simp only [↓sx0, sxE, encs, sevalprocAttr]
   refine EndW.fn ?_ ?_ <;> simp only [sx4, encs, kpLL_map, sxR, sevalprocAttr] <;> (try simp [sheetErr, h, h']) <;> (try omega)
 ·simp only [↓sx0, sxE, encs, sevalprocAttr]
  refine EndW.fn ?_ ?_ <;> simp only [sx4, encs, kpLL_map, sxR, sevalprocAttr] <;> (try simp [sheetErr, h]) <;> (try omega)
theorem isPage_s (n t : Int) : Ctr Tryz.prog 51 [(.v (.int .i64 n)), (.v (.int .i64 t))] (fun rr => rr = ⟨(.v (.bool (decide (1 ≤ n ∧ n ≤ 4000 ∧ 0 ≤ t ∧ t ≤ 1)))), []⟩) := by
 refine Ctr.of (rs := [.tmp 4]) Tok true Tryz.func51 rfl rfl rfl rfl (by simp [ofDL]) (fun w0 kp => ?_)
 simp only [↓sx0, sxE, encs, sevalprocAttr]
 refine CallI.fn (within_s n 1 4000) (by simp only [sx3, encs, sxR, sevalprocAttr] <;> (try simp) <;> (try rfl)) ?_
 simp only [↓sx0, sxE, encs, sevalprocAttr]
 refine BrW.dec (fun h => ?_) (fun h => ?_)
 ·simp only [↓sx0, sxE, encs, sevalprocAttr]
  refine CallI.fn (within_s t 0 1) (by simp only [sx3, encs, sxR, sevalprocAttr] <;> (try simp) <;> (try rfl)) ?_
  simp only [↓sx0, sxE, encs, sevalprocAttr]
  refine EndW.fn ?_ ?_ <;> simp only [sx4, encs, kpLL_map, sxR, sevalprocAttr] <;> (try simp [h]) <;> (try omega)
 ·simp only [↓sx0, sxE, encs, sevalprocAttr]
  have : ¬ (1 ≤ n ∧ n ≤ 4000 ∧ 0 ≤ t ∧ t ≤ 1) := fun k => h ⟨k.1, k.2.1⟩
  refine EndW.fn ?_ ?_ <;> simp only [sx4, encs, kpLL_map, sxR, sevalprocAttr] <;> (try simp [this]) <;> (try omega)
/-- the first place where a test holds; -1: there is none. -/
def ixS {α : Type} (p : α → Bool) (l : List α) : Int := match l.findIdx? p with
 | some i => (i : Int)
 | none => -1
theorem ixS_at {α : Type} {p : α → Bool} {l : List α} {k : Nat} (h : k < l.length) (h1 : ∀ x ∈ l.take k, p x = false) (h2 : p l[k] = true) : ixS p l = k := by
 have : l.findIdx? p = some k := by
  rw [List.findIdx?_eq_some_iff_getElem]
  refine ⟨h, h2, fun j hj => ?_⟩
  have := h1 l[j] (by rw [List.mem_take_iff_getElem]; exact ⟨j, by omega, rfl⟩)
  simp [this]
 simp [ixS, this]
theorem ixS_no {α : Type} {p : α → Bool} {l : List α} (h1 : ∀ x ∈ l, p x = false) : ixS p l = -1 := by
 have : l.findIdx? p = none := by
  rw [List.findIdx?_eq_none_iff]; exact h1
 simp [ixS, this]
theorem ixS_any {α : Type} {p : α → Bool} {l : List α} : decide (0 ≤ ixS p l) = l.any p := by
 unfold ixS
 cases h : l.findIdx? p with
 | none =>
  rw [List.findIdx?_eq_none_iff] at h
  have : l.any p = false := by simpa using h
  rw [this]; rfl
 | some i =>
  rw [List.findIdx?_eq_some_iff_getElem] at h
  obtain ⟨hi, h1, _⟩ := h
  have : l.any p = true := List.any_eq_true.2 ⟨l[i], List.getElem_mem hi, h1⟩
  rw [this]
  simp
theorem indexPages_s (b : Bool) (f : Nat) (p : Page → Bool) (l : List Page) (hl : l.length ≤ 1000000000) (hof : ∀ x : Page, Ctr Tryz.prog f [.agg [(.v (.int .i64 x.page)), (.v (.int .i64 x.turn))]] (fun rr => rr = ⟨(.v (.bool (p x))), []⟩)) : Ctr Tryz.prog 84 [.sl b 2 (l.map eP), .clo f []] (fun rr => rr = ⟨(.v (.int .i64 (ixS p l))), []⟩) := by
 refine Ctr.of (rs := [.tmp 4]) Tok true Tryz.func84 rfl rfl rfl rfl (by simp [ofDL]) (fun w0 kp => ?_)
 simp only [↓sx0, sxE, encs, sevalprocAttr]
 refine LoopW.comp [0, 1, 7, 8] (by simp only [sx2, encs, sxR, sevalprocAttr] <;> (try simp) <;> (try omega)) ?_
 simp only [sx2, sxR, sevalprocAttr]
 refine LoopW.up Tok (fun k : Nat => [(8, (.v (.int .i64 k)))]) (fun k => []) (fun k => []) (fun k => []) (fun k => k ≤ l.length ∧ ∀ x ∈ l.take k, p x = false) (fun k => l.length - k) (0) (by simp only [sx2, encs, sxR, sevalprocAttr] <;> (try simp) <;> (try omega)) ?_ ?_
 ·exact ⟨by omega, by simp⟩
 rintro k ⟨hk, hp⟩
 simp only [↓sx0, sxE, encs, sevalprocAttr]
 refine BrW.dec (fun hlt => ?_) (fun hlt => ?_)
 ·simp only [↓sx0, sxE, encs, sevalprocAttr]
  have hk2 : k < l.length := by omega
  refine IxW.nat hk2 ?_
  simp only [↓sx0, sxE, encs, sevalprocAttr]
  refine CallI.fn (hof l[k]) (by simp only [sx3, encs, sxR, sevalprocAttr] <;> (try simp) <;> (try rfl)) ?_
  simp only [↓sx0, sxE, encs, sevalprocAttr]
  refine BrW.of (fun hb => ?_) (fun hb => ?_)
  ·simp only [↓sx0, sxE, encs, sevalprocAttr]
   refine EndW.fn ?_ ?_ <;> simp only [sx4, encs, kpLL_map, sxR, sevalprocAttr] <;> (try simp [ixS_at hk2 hp hb]) <;> (try omega)
  ·simp only [↓sx0, sxE, encs, sevalprocAttr]
   (with_reducible refine Vc.go ?_ fun _ => ?_); focus (first | omega | (simp only [InK]; omega) | (simp [InK]; done) | (simp [InK]; omega))
   simp only [↓sx0, sxE, encs, sevalprocAttr]
   refine ⟨k + 1, StLe.auto (by simp only [sx2, encs, sxR, sevalprocAttr] <;> (try simp) <;> (try omega)), ?_, ?_⟩
   ·refine ⟨hk2, fun x hx => ?_⟩
    rw [List.take_succ_eq_append_getElem hk2, List.mem_append, List.mem_singleton] at hx
    rcases hx with hx | rfl
    ·exact hp x hx
    ·exact hb
   ·omega
 ·simp only [↓sx0, sxE, encs, sevalprocAttr]
  have hke : k = l.length := by omega
  subst hke
  rw [List.take_length] at hp
  refine EndW.fn ?_ ?_ <;> simp only [sx4, encs, kpLL_map, sxR, sevalprocAttr] <;> (try simp [ixS_no hp]) <;> (try omega)
theorem containsPages_s (b : Bool) (f : Nat) (p : Page → Bool) (l : List Page) (hl : l.length ≤ 1000000000) (hof : ∀ x : Page, Ctr Tryz.prog f [.agg [(.v (.int .i64 x.page)), (.v (.int .i64 x.turn))]] (fun rr => rr = ⟨(.v (.bool (p x))), []⟩)) : Ctr Tryz.prog 49 [.sl b 2 (l.map eP), .clo f []] (fun rr => rr = ⟨(.v (.bool (l.any p))), []⟩) := by
 refine Ctr.of (rs := [.tmp 4]) Tok true Tryz.func49 rfl rfl rfl rfl (by simp [ofDL]) (fun w0 kp => ?_)
 simp only [↓sx0, sxE, encs, sevalprocAttr]
 refine CallI.fn (indexPages_s b f p l hl hof) (by simp only [sx3, encs, sxR, sevalprocAttr] <;> (try simp) <;> (try rfl)) ?_
 simp only [↓sx0, sxE, encs, sevalprocAttr]
 refine EndW.fn ?_ ?_ <;> simp only [sx4, encs, kpLL_map, sxR, sevalprocAttr] <;> (try simp [ixS_any]) <;> (try omega)
end Go.Proofs.YtgiegokdcmkfeaaGreatDoor
/-
 Chapter 6, walks: the document's piles: stacks turned, sheets seen from the other end.
-/
namespace Go.Proofs.YtgiegokdcmkfeaaGreatDoor
open Go Go.Vx
set_option maxRecDepth 20000
theorem flatR_s (cn rn : Nat) (hc : cn ≤ 1000) (hr : rn ≤ 1000) : Ctr Tryz.prog 64 [(.v (.int .i64 cn)), (.v (.int .i64 rn))] (fun rr => rr = ⟨.agg [(.v (.int .i64 cn)), (.v (.int .i64 rn)), .sl true 1 ((flatG cn rn).map eK)], []⟩) := by
 have hsz : rn * cn ≤ 1000 * 1000 := Nat.mul_le_mul hr hc
 refine Ctr.of (rs := [.cell 4 72]) Tok true Tryz.func64 rfl rfl rfl rfl (by simp [ofDL]) (fun w0 kp => ?_)
 simp only [↓sx0, sxE, encs, sevalprocAttr]
 refine LoopW.comp [0, 1, 4, 5, 6] (by simp only [sx2, encs, sxR, sevalprocAttr] <;> (try simp) <;> (try omega)) ?_
 simp only [sx2, sxR, sevalprocAttr]
 refine LoopW.up Tok (fun q : Nat => [(6, (.v (.int .i64 q)))]) (fun q => [(1, [(.v (.int .i64 cn)), (.v (.int .i64 rn)), .row 0])]) (fun q => []) (fun q => [.own 163 1 ((grid cn q oneL).map eK)]) (fun q => q ≤ rn) (fun q => rn - q) (0) (by simp only [sx2, encs, sxR, sevalprocAttr] <;> (try simp) <;> (try omega)) ?_ ?_
 ·omega
 rintro q hq1
 simp only [↓sx0, sxE, encs, sevalprocAttr]
 refine BrW.dec (fun hlt => ?_) (fun hlt => ?_)
 ·simp only [↓sx0, sxE, encs, sevalprocAttr]
  have hq2 : q < rn := by omega
  refine LoopW.comp [0, 1, 4, 5, 6, 7] (by simp only [sx2, encs, sxR, sevalprocAttr] <;> (try simp) <;> (try omega)) ?_
  simp only [sx2, sxR, sevalprocAttr]
  refine LoopW.up Tok (fun k : Nat => [(7, (.v (.int .i64 k)))]) (fun k => []) (fun k => [(0, ((grid cn q oneL) ++ gridRow k oneL q).map eK)]) (fun k => []) (fun k => k ≤ cn) (fun k => cn - k) (0) (by simp only [sx2, encs, sxR, sevalprocAttr] <;> (try simp) <;> (try omega)) ?_ ?_
  ·omega
  rintro k hk1
  simp only [↓sx0, sxE, encs, sevalprocAttr]
  refine BrW.dec (fun hlt2 => ?_) (fun hlt2 => ?_)
  ·have hk2 : k < cn := by omega
   have hqk := cell_lt hq2 hk2
   simp only [↓sx0, sxE, encs, sevalprocAttr]
   (with_reducible refine Vc.go ?_ fun _ => ?_); focus (first | omega | (simp only [InK]; omega) | (simp [grid_length, gridRow_length, InK]; done) | (simp [grid_length, gridRow_length, InK]; omega))
   simp only [↓sx0, sxE, encs, sevalprocAttr]
   (with_reducible refine Vc.go ?_ fun _ => ?_); focus (first | omega | (simp only [InK]; omega) | (simp [InK]; done) | (simp [InK]; omega))
   simp only [↓sx0, sxE, encs, sevalprocAttr]
   refine ⟨k + 1, StLe.auto (by simp only [sx2, encs, sxR, sevalprocAttr] <;> (try simp [gridRow_succ, oneL, encs]) <;> (try omega)), ?_, ?_⟩
   ·omega
   ·omega
  ·simp only [↓sx0, sxE, encs, sevalprocAttr]
   have : k = cn := by omega
   subst this
   (with_reducible refine Vc.go ?_ fun _ => ?_); focus (first | omega | (simp only [InK]; omega) | (simp [InK]; done) | (simp [InK]; omega))
   simp only [↓sx0, sxE, encs, sevalprocAttr]
   refine ⟨q + 1, StLe.auto (by simp only [sx2, encs, sxR, sevalprocAttr] <;> (try simp [grid_succ, encs]) <;> (try omega)), ?_, ?_⟩
   ·omega
   ·omega
 ·simp only [↓sx0, sxE, encs, sevalprocAttr]
  have : q = rn := by omega
  subst this
  refine EndW.fn ?_ ?_ <;> simp only [sx4, encs, kpLL_map, sxR, sevalprocAttr] <;> (try simp [flatG]) <;> (try omega)
/-- a leaf turned so often over, and so often round. -/
def mdl (o r : Int) (x : Leaf) : Leaf := ⟨x.col, x.row, (x.over + o).tmod 2, (x.round + r).tmod 2⟩
theorem tm2 {a b : Int} (h : 0 ≤ a ∧ a ≤ 1) (k : b = 0 ∨ b = 1) : 0 ≤ (a + b).tmod 2 ∧ (a + b).tmod 2 ≤ 1 := by
 have : (a + b).tmod 2 = (a + b) % 2 := Int.tmod_eq_emod_of_nonneg (by omega)
 omega
theorem tm0 {a : Int} (h : 0 ≤ a ∧ a ≤ 1) : (a + 0).tmod 2 = a := by
 have : (a + 0).tmod 2 = (a + 0) % 2 := Int.tmod_eq_emod_of_nonneg (by omega)
 omega
theorem tm1 {a : Int} (h : 0 ≤ a ∧ a ≤ 1) : (a + 1).tmod 2 = 1 - a := by
 have : (a + 1).tmod 2 = (a + 1) % 2 := Int.tmod_eq_emod_of_nonneg (by omega)
 omega
theorem mdl_over {l : List Leaf} (h : Fine l) : l.map (mdl 1 0) = l.map (flip false) :=
 List.map_congr_left fun x hx => by
  obtain ⟨h1, h2⟩ := h x hx
  simp only [mdl, flip, tm1 h1, tm0 h2, Bool.false_eq_true, if_false]
theorem mdl_both {l : List Leaf} (h : Fine l) : l.map (mdl 1 1) = l.map (flip true) :=
 List.map_congr_left fun x hx => by
  obtain ⟨h1, h2⟩ := h x hx
  simp only [mdl, flip, tm1 h1, tm1 h2, if_true]
theorem mdl_round {l : List Leaf} (h : Fine l) : l.map (mdl 0 1) = l.map rnd1 :=
 List.map_congr_left fun x hx => by
  obtain ⟨h1, h2⟩ := h x hx
  simp only [mdl, rnd1, tm0 h1, tm1 h2]
theorem mdl_none {l : List Leaf} (h : Fine l) : l.map (mdl 0 0) = l := by
 conv => rhs; rw [← List.map_id l]
 exact List.map_congr_left fun x hx => by
  obtain ⟨h1, h2⟩ := h x hx
  simp only [mdl, tm0 h1, tm0 h2, id]
theorem fine_rev {l : List Leaf} (h : Fine l) : Fine l.reverse := fun x hx => h x (List.mem_reverse.1 hx)
/-- the first stacks of a stack that is turned. -/
def tkR (o r : Int) (l : List Leaf) (k : Nat) : List Leaf := (l.reverse.take k).map (mdl o r)
theorem tkR_zero (o r : Int) (l : List Leaf) : tkR o r l 0 = [] := rfl
theorem tkR_succ {o r : Int} {l : List Leaf} {k : Nat} (h : k < l.length) : tkR o r l (k + 1) = tkR o r l k ++ [mdl o r l[l.length - 1 - k]] := by
 unfold tkR
 rw [List.take_succ_eq_append_getElem (by simpa using h), List.map_append]
 simp
theorem tkR_len {o r : Int} {l : List Leaf} {k : Nat} (h : k ≤ l.length) : (tkR o r l k).length = k := by simp [tkR]; omega
theorem tkR_end {o r : Int} {l : List Leaf} : tkR o r l l.length = l.reverse.map (mdl o r) := by
 unfold tkR; rw [List.take_of_length_le (by simp)]
theorem turnedO_s (b : Bool) (o r : Int) (l : List Leaf) (ho : o = 0 ∨ o = 1) (hr : r = 0 ∨ r = 1) (hf : Fine l) (hl : l.length ≤ 1000000) : Ctr Tryz.prog 110 [.sl b 4 (l.map eL), (.v (.int .i64 o)), (.v (.int .i64 r))] (fun rr => rr = ⟨.row 0, [.own 79 4 ((l.reverse.map (mdl o r)).map eL)]⟩) := by
 refine Ctr.of (rs := [.tmp 6]) Tok false Tryz.func110 rfl rfl rfl rfl (by simp [ofDL]) (fun w0 kp => ?_)
 simp only [↓sx0, sxE, encs, sevalprocAttr]
 repeat ((with_reducible refine Vc.go ?_ fun _ => ?_); (focus (first | omega | (simp only [InK]; omega) | (simp [InK]; done) | (simp [InK]; omega))); simp only [↓sx0, sxE, encs, sevalprocAttr])
 refine LoopW.comp [0, 1, 2, 7, 8] (by simp only [sx2, encs, sxR, sevalprocAttr] <;> (try simp) <;> (try omega)) ?_
 simp only [sx2, sxR, sevalprocAttr]
 refine LoopW.up Tok (fun k : Nat => [(7, .row 0), (8, (.v (.int .i64 ((l.length : Int) - 1 - k))))]) (fun k => []) (fun k => []) (fun k => [.own 79 4 ((tkR o r l k).map eL)]) (fun k => k ≤ l.length) (fun k => l.length - k) (0) (by simp only [sx2, encs, sxR, sevalprocAttr] <;> (try simp [tkR_zero, encs]) <;> (try omega)) ?_ ?_
 ·omega
 rintro k hk
 have htl := tkR_len (o := o) (r := r) hk
 simp only [↓sx0, sxE, encs, sevalprocAttr]
 refine BrW.dec (fun hlt => ?_) (fun hlt => ?_)
 ·have hk2 : k < l.length := by omega
  have hj : l.length - 1 - k < l.length := by omega
  have ej : ((l.length : Int) - 1 - k).toNat = l.length - 1 - k := by omega
  obtain ⟨f1, f2⟩ := hf _ (List.getElem_mem hj)
  have ht1 := tm2 f1 ho
  have ht2 := tm2 f2 hr
  simp only [↓sx0, sxE, encs, sevalprocAttr]
  repeat ((with_reducible refine Vc.go ?_ fun _ => ?_); (focus (first | omega | (simp only [InK]; omega) | (simp [InK]; done) | (simp [InK]; omega))); simp only [↓sx0, sxE, encs, sevalprocAttr])
  refine IxW.map l[l.length - 1 - k] (by omega) (by rw [ej]; exact List.getElem?_eq_getElem hj) ?_
  simp only [↓sx0, sxE, encs, sevalprocAttr]
  repeat ((with_reducible refine Vc.go ?_ fun _ => ?_); (focus (first | omega | (simp only [InK]; omega) | (simp [InK]; done) | (simp [InK]; omega))); simp only [↓sx0, sxE, encs, sevalprocAttr])
  have e5 : (l.length : Int) - 1 - k - 1 = (l.length : Int) - 1 - ((k + 1 : Nat) : Int) := by push_cast; omega
  rw [e5]
  refine ⟨k + 1, StLe.auto (by simp only [sx2, encs, sxR, sevalprocAttr] <;> (try simp [tkR_succ hk2, mdl, encs]) <;> (try omega)), ?_, ?_⟩
  ·omega
  ·omega
 ·simp only [↓sx0, sxE, encs, sevalprocAttr]
  have : k = l.length := by omega
  subst this
  rw [tkR_end]
  exact EndW.r [some 0] (by simp) (by simp only [sx4, sxF, encs, kpLL_map, sxR, sevalprocAttr] <;> simp [kpL, kpD]) (by simp only [sx4, sxF, encs, kpLL_map, sxR, sevalprocAttr] <;> simp [kpL, kpD]) (by simp only [sx4, sxF, encs, kpLL_map, sxR, sevalprocAttr] <;> simp [kpL, kpD]) (by simp only [sx4, sxF, encs, kpLL_map, sxR, sevalprocAttr] <;> simp [kpL, kpD])
theorem turnedF_s (b : Bool) (o r : Int) (l : List Leaf) (ho : o = 0 ∨ o = 1) (hr : r = 0 ∨ r = 1) (hf : Fine l) (hl : l.length ≤ 1000000) : Ctr Tryz.prog 110 [.sl b 4 (l.map eL), (.v (.int .i64 o)), (.v (.int .i64 r))] (fun rr => rr = ⟨.sl true 4 ((l.reverse.map (mdl o r)).map eL), []⟩) := by
 refine Ctr.of (rs := [.tmp 6]) Tok true Tryz.func110 rfl rfl rfl rfl (by simp [ofDL]) (fun w0 kp => ?_)
 simp only [↓sx0, sxE, encs, sevalprocAttr]
 repeat ((with_reducible refine Vc.go ?_ fun _ => ?_); (focus (first | omega | (simp only [InK]; omega) | (simp [InK]; done) | (simp [InK]; omega))); simp only [↓sx0, sxE, encs, sevalprocAttr])
 refine LoopW.comp [0, 1, 2, 7, 8] (by simp only [sx2, encs, sxR, sevalprocAttr] <;> (try simp) <;> (try omega)) ?_
 simp only [sx2, sxR, sevalprocAttr]
 refine LoopW.up Tok (fun k : Nat => [(7, .row 0), (8, (.v (.int .i64 ((l.length : Int) - 1 - k))))]) (fun k => []) (fun k => []) (fun k => [.own 79 4 ((tkR o r l k).map eL)]) (fun k => k ≤ l.length) (fun k => l.length - k) (0) (by simp only [sx2, encs, sxR, sevalprocAttr] <;> (try simp [tkR_zero, encs]) <;> (try omega)) ?_ ?_
 ·omega
 rintro k hk
 have htl := tkR_len (o := o) (r := r) hk
 simp only [↓sx0, sxE, encs, sevalprocAttr]
 refine BrW.dec (fun hlt => ?_) (fun hlt => ?_)
 ·have hk2 : k < l.length := by omega
  have hj : l.length - 1 - k < l.length := by omega
  have ej : ((l.length : Int) - 1 - k).toNat = l.length - 1 - k := by omega
  obtain ⟨f1, f2⟩ := hf _ (List.getElem_mem hj)
  have ht1 := tm2 f1 ho
  have ht2 := tm2 f2 hr
  simp only [↓sx0, sxE, encs, sevalprocAttr]
  repeat ((with_reducible refine Vc.go ?_ fun _ => ?_); (focus (first | omega | (simp only [InK]; omega) | (simp [InK]; done) | (simp [InK]; omega))); simp only [↓sx0, sxE, encs, sevalprocAttr])
  refine IxW.map l[l.length - 1 - k] (by omega) (by rw [ej]; exact List.getElem?_eq_getElem hj) ?_
  simp only [↓sx0, sxE, encs, sevalprocAttr]
  repeat ((with_reducible refine Vc.go ?_ fun _ => ?_); (focus (first | omega | (simp only [InK]; omega) | (simp [InK]; done) | (simp [InK]; omega))); simp only [↓sx0, sxE, encs, sevalprocAttr])
  have e5 : (l.length : Int) - 1 - k - 1 = (l.length : Int) - 1 - ((k + 1 : Nat) : Int) := by push_cast; omega
  rw [e5]
  refine ⟨k + 1, StLe.auto (by simp only [sx2, encs, sxR, sevalprocAttr] <;> (try simp [tkR_succ hk2, mdl, encs]) <;> (try omega)), ?_, ?_⟩
  ·omega
  ·omega
 ·simp only [↓sx0, sxE, encs, sevalprocAttr]
  have : k = l.length := by omega
  subst this
  rw [tkR_end]
  refine EndW.fn ?_ ?_ <;> simp only [sx4, encs, kpLL_map, sxR, sevalprocAttr] <;> (try simp) <;> (try omega)
/-- the places of a pile that is seen with its columns, or its rows, from the other end. -/
def mirG (mc mr : Bool) (cols rows : Nat) (ls : List (List Leaf)) (c r : Nat) : List Leaf := stkAt ls ((if mr then rows - 1 - r else r) * cols + (if mc then cols - 1 - c else c))
theorem mirroredR_s (b : Bool) (cn rn : Nat) (ls : List (List Leaf)) (hn : ls.length = rn * cn) (hc : cn ≤ 1000) (hr : rn ≤ 1000) : Ctr Tryz.prog 90 [.agg [(.v (.int .i64 cn)), (.v (.int .i64 rn)), .sl b 1 (ls.map eK)], (.v (.bool (false))), (.v (.bool (true)))] (fun rr => rr = ⟨.agg [(.v (.int .i64 cn)), (.v (.int .i64 rn)), .row 0], [.own 163 1 ((grid cn rn (mirG false true cn rn ls)).map eK)]⟩) := by
 have hsz : rn * cn ≤ 1000 * 1000 := Nat.mul_le_mul hr hc
 refine Ctr.of (rs := [.cell 6 72]) Tok false Tryz.func90 rfl rfl rfl rfl (by simp [ofDL]) (fun w0 kp => ?_)
 simp only [↓sx0, sxE, encs, sevalprocAttr]
 refine LoopW.comp [1, 2, 3, 6, 7, 8] (by simp only [sx2, encs, sxR, sevalprocAttr] <;> (try simp) <;> (try omega)) ?_
 simp only [sx2, sxR, sevalprocAttr]
 refine LoopW.up Tok (fun q : Nat => [(8, (.v (.int .i64 q)))]) (fun q => [(2, [(.v (.int .i64 cn)), (.v (.int .i64 rn)), .row 0])]) (fun q => []) (fun q => [.own 163 1 ((grid cn q (mirG false true cn rn ls)).map eK)]) (fun q => q ≤ rn) (fun q => rn - q) (0) (by simp only [sx2, encs, sxR, sevalprocAttr] <;> (try simp) <;> (try omega)) ?_ ?_
 ·omega
 rintro q hq1
 simp only [↓sx0, sxE, encs, sevalprocAttr]
 refine BrW.dec (fun hlt => ?_) (fun hlt => ?_)
 ·simp only [↓sx0, sxE, encs, sevalprocAttr]
  have hq2 : q < rn := by omega
  refine LoopW.comp [1, 2, 3, 6, 7, 8, 9] (by simp only [sx2, encs, sxR, sevalprocAttr] <;> (try simp) <;> (try omega)) ?_
  simp only [sx2, sxR, sevalprocAttr]
  refine LoopW.up Tok (fun k : Nat => [(9, (.v (.int .i64 k)))]) (fun k => []) (fun k => [(0, ((grid cn q (mirG false true cn rn ls)) ++ gridRow k (mirG false true cn rn ls) q).map eK)]) (fun k => []) (fun k => k ≤ cn) (fun k => cn - k) (0) (by simp only [sx2, encs, sxR, sevalprocAttr] <;> (try simp) <;> (try omega)) ?_ ?_
  ·omega
  rintro k hk1
  simp only [↓sx0, sxE, encs, sevalprocAttr]
  refine BrW.dec (fun hlt2 => ?_) (fun hlt2 => ?_)
  ·have hk2 : k < cn := by omega
   have hqk := cell_lt hq2 hk2
   have hy : (rn - 1 - q) < rn := by omega
   have hx : k < cn := by omega
   have hxy := cell_lt hy hx
   have ey : ((rn : Int) - 1 - q) * cn = (((rn - 1 - q) * cn : Nat) : Int) := by rw [show ((rn : Int) - 1 - q) = (((rn - 1 - q) : Nat) : Int) by omega]; push_cast; rfl
   have i1 := stkAt_get (ls := ls) (i := (rn - 1 - q) * cn + k) (by omega)
   simp only [↓sx0, sxE, encs, sevalprocAttr]
   repeat ((with_reducible refine Vc.go ?_ fun _ => ?_); (focus (first | omega | (simp only [InK]; omega) | (simp [InK]; done) | (simp [InK]; omega))); simp only [↓sx0, sxE, encs, sevalprocAttr])
   refine DrawW.plan Tok mixed (.q 0 <| .q 1 <| .q 2 <| .q 3 <| .q 4 <| .q 5 <| .q 6 <| .q 7 <| .q 8 <| .q 9 <| .q 10 <| .q 11 <| .e 12 [1] <| .e 13 [] <| .q 14 <| .e 15 [] <| .done) (by kernel_rfl) (by kernel_rfl) ?_
   simp only [↓sx0, sxE, encs, sevalprocAttr]
   repeat ((with_reducible refine Vc.go ?_ fun _ => ?_); (focus (first | omega | (simp only [InK]; omega) | (simp [InK]; done) | (simp [InK]; omega))); simp only [↓sx0, sxE, encs, sevalprocAttr])
   rw [ey]
   repeat ((with_reducible refine Vc.go ?_ fun _ => ?_); (focus (first | omega | (simp only [InK]; omega) | (simp [InK]; done) | (simp [InK]; omega))); simp only [↓sx0, sxE, encs, sevalprocAttr])
   refine IxW.map _ (by omega) (by rw [show ((((rn - 1 - q) * cn : Nat) : Int) + (k : Int)).toNat = (rn - 1 - q) * cn + k by omega]; exact i1) ?_
   simp only [↓sx0, sxE, encs, sevalprocAttr]
   (with_reducible refine Vc.go ?_ fun _ => ?_); focus (first | omega | (simp only [InK]; omega) | (simp [grid_length, gridRow_length, InK]; done) | (simp [grid_length, gridRow_length, InK]; omega))
   simp only [↓sx0, sxE, encs, sevalprocAttr]
   (with_reducible refine Vc.go ?_ fun _ => ?_); focus (first | omega | (simp only [InK]; omega) | (simp [InK]; done) | (simp [InK]; omega))
   simp only [↓sx0, sxE, encs, sevalprocAttr]
   refine ⟨k + 1, StLe.auto (by simp only [sx2, encs, sxR, sevalprocAttr] <;> (try simp [gridRow_succ, mirG, encs]) <;> (try omega)), ?_, ?_⟩
   ·omega
   ·omega
  ·simp only [↓sx0, sxE, encs, sevalprocAttr]
   have : k = cn := by omega
   subst this
   (with_reducible refine Vc.go ?_ fun _ => ?_); focus (first | omega | (simp only [InK]; omega) | (simp [InK]; done) | (simp [InK]; omega))
   simp only [↓sx0, sxE, encs, sevalprocAttr]
   refine ⟨q + 1, StLe.auto (by simp only [sx2, encs, sxR, sevalprocAttr] <;> (try simp [grid_succ, encs]) <;> (try omega)), ?_, ?_⟩
   ·omega
   ·omega
 ·simp only [↓sx0, sxE, encs, sevalprocAttr]
  have : q = rn := by omega
  subst this
  exact EndW.r [some 0] (by simp) (by simp only [sx4, sxF, encs, kpLL_map, sxR, sevalprocAttr] <;> simp [kpL, kpD]) (by simp only [sx4, sxF, encs, kpLL_map, sxR, sevalprocAttr] <;> simp [kpL, kpD]) (by simp only [sx4, sxF, encs, kpLL_map, sxR, sevalprocAttr] <;> simp [kpL, kpD]) (by simp only [sx4, sxF, encs, kpLL_map, sxR, sevalprocAttr] <;> simp [kpL, kpD])
theorem mirroredC_s (b : Bool) (cn rn : Nat) (ls : List (List Leaf)) (hn : ls.length = rn * cn) (hc : cn ≤ 1000) (hr : rn ≤ 1000) : Ctr Tryz.prog 90 [.agg [(.v (.int .i64 cn)), (.v (.int .i64 rn)), .sl b 1 (ls.map eK)], (.v (.bool (true))), (.v (.bool (false)))] (fun rr => rr = ⟨.agg [(.v (.int .i64 cn)), (.v (.int .i64 rn)), .row 0], [.own 163 1 ((grid cn rn (mirG true false cn rn ls)).map eK)]⟩) := by
 have hsz : rn * cn ≤ 1000 * 1000 := Nat.mul_le_mul hr hc
 refine Ctr.of (rs := [.cell 6 72]) Tok false Tryz.func90 rfl rfl rfl rfl (by simp [ofDL]) (fun w0 kp => ?_)
 simp only [↓sx0, sxE, encs, sevalprocAttr]
 refine LoopW.comp [1, 2, 3, 6, 7, 8] (by simp only [sx2, encs, sxR, sevalprocAttr] <;> (try simp) <;> (try omega)) ?_
 simp only [sx2, sxR, sevalprocAttr]
 refine LoopW.up Tok (fun q : Nat => [(8, (.v (.int .i64 q)))]) (fun q => [(2, [(.v (.int .i64 cn)), (.v (.int .i64 rn)), .row 0])]) (fun q => []) (fun q => [.own 163 1 ((grid cn q (mirG true false cn rn ls)).map eK)]) (fun q => q ≤ rn) (fun q => rn - q) (0) (by simp only [sx2, encs, sxR, sevalprocAttr] <;> (try simp) <;> (try omega)) ?_ ?_
 ·omega
 rintro q hq1
 simp only [↓sx0, sxE, encs, sevalprocAttr]
 refine BrW.dec (fun hlt => ?_) (fun hlt => ?_)
 ·simp only [↓sx0, sxE, encs, sevalprocAttr]
  have hq2 : q < rn := by omega
  refine LoopW.comp [1, 2, 3, 6, 7, 8, 9] (by simp only [sx2, encs, sxR, sevalprocAttr] <;> (try simp) <;> (try omega)) ?_
  simp only [sx2, sxR, sevalprocAttr]
  refine LoopW.up Tok (fun k : Nat => [(9, (.v (.int .i64 k)))]) (fun k => []) (fun k => [(0, ((grid cn q (mirG true false cn rn ls)) ++ gridRow k (mirG true false cn rn ls) q).map eK)]) (fun k => []) (fun k => k ≤ cn) (fun k => cn - k) (0) (by simp only [sx2, encs, sxR, sevalprocAttr] <;> (try simp) <;> (try omega)) ?_ ?_
  ·omega
  rintro k hk1
  simp only [↓sx0, sxE, encs, sevalprocAttr]
  refine BrW.dec (fun hlt2 => ?_) (fun hlt2 => ?_)
  ·have hk2 : k < cn := by omega
   have hqk := cell_lt hq2 hk2
   have hy : q < rn := by omega
   have hx : (cn - 1 - k) < cn := by omega
   have hxy := cell_lt hy hx
   have ey : (q : Int) * cn = ((q * cn : Nat) : Int) := by rw [show (q : Int) = ((q : Nat) : Int) by omega]; push_cast; rfl
   have i1 := stkAt_get (ls := ls) (i := q * cn + (cn - 1 - k)) (by omega)
   simp only [↓sx0, sxE, encs, sevalprocAttr]
   repeat ((with_reducible refine Vc.go ?_ fun _ => ?_); (focus (first | omega | (simp only [InK]; omega) | (simp [InK]; done) | (simp [InK]; omega))); simp only [↓sx0, sxE, encs, sevalprocAttr])
   refine DrawW.plan Tok mixed (.q 0 <| .q 1 <| .q 2 <| .q 3 <| .q 4 <| .q 5 <| .q 6 <| .q 7 <| .q 8 <| .q 9 <| .q 10 <| .q 11 <| .e 12 [1] <| .e 13 [] <| .q 14 <| .e 15 [] <| .done) (by kernel_rfl) (by kernel_rfl) ?_
   simp only [↓sx0, sxE, encs, sevalprocAttr]
   repeat ((with_reducible refine Vc.go ?_ fun _ => ?_); (focus (first | omega | (simp only [InK]; omega) | (simp [InK]; done) | (simp [InK]; omega))); simp only [↓sx0, sxE, encs, sevalprocAttr])
   rw [ey]
   repeat ((with_reducible refine Vc.go ?_ fun _ => ?_); (focus (first | omega | (simp only [InK]; omega) | (simp [InK]; done) | (simp [InK]; omega))); simp only [↓sx0, sxE, encs, sevalprocAttr])
   refine IxW.map _ (by omega) (by rw [show (((q * cn : Nat) : Int) + ((cn : Int) - 1 - k)).toNat = q * cn + (cn - 1 - k) by omega]; exact i1) ?_
   simp only [↓sx0, sxE, encs, sevalprocAttr]
   (with_reducible refine Vc.go ?_ fun _ => ?_); focus (first | omega | (simp only [InK]; omega) | (simp [grid_length, gridRow_length, InK]; done) | (simp [grid_length, gridRow_length, InK]; omega))
   simp only [↓sx0, sxE, encs, sevalprocAttr]
   (with_reducible refine Vc.go ?_ fun _ => ?_); focus (first | omega | (simp only [InK]; omega) | (simp [InK]; done) | (simp [InK]; omega))
   simp only [↓sx0, sxE, encs, sevalprocAttr]
   refine ⟨k + 1, StLe.auto (by simp only [sx2, encs, sxR, sevalprocAttr] <;> (try simp [gridRow_succ, mirG, encs]) <;> (try omega)), ?_, ?_⟩
   ·omega
   ·omega
  ·simp only [↓sx0, sxE, encs, sevalprocAttr]
   have : k = cn := by omega
   subst this
   (with_reducible refine Vc.go ?_ fun _ => ?_); focus (first | omega | (simp only [InK]; omega) | (simp [InK]; done) | (simp [InK]; omega))
   simp only [↓sx0, sxE, encs, sevalprocAttr]
   refine ⟨q + 1, StLe.auto (by simp only [sx2, encs, sxR, sevalprocAttr] <;> (try simp [grid_succ, encs]) <;> (try omega)), ?_, ?_⟩
   ·omega
   ·omega
 ·simp only [↓sx0, sxE, encs, sevalprocAttr]
  have : q = rn := by omega
  subst this
  exact EndW.r [some 0] (by simp) (by simp only [sx4, sxF, encs, kpLL_map, sxR, sevalprocAttr] <;> simp [kpL, kpD]) (by simp only [sx4, sxF, encs, kpLL_map, sxR, sevalprocAttr] <;> simp [kpL, kpD]) (by simp only [sx4, sxF, encs, kpLL_map, sxR, sevalprocAttr] <;> simp [kpL, kpD]) (by simp only [sx4, sxF, encs, kpLL_map, sxR, sevalprocAttr] <;> simp [kpL, kpD])
theorem mirroredCR_s (b : Bool) (cn rn : Nat) (ls : List (List Leaf)) (hn : ls.length = rn * cn) (hc : cn ≤ 1000) (hr : rn ≤ 1000) : Ctr Tryz.prog 90 [.agg [(.v (.int .i64 cn)), (.v (.int .i64 rn)), .sl b 1 (ls.map eK)], (.v (.bool (true))), (.v (.bool (true)))] (fun rr => rr = ⟨.agg [(.v (.int .i64 cn)), (.v (.int .i64 rn)), .row 0], [.own 163 1 ((grid cn rn (mirG true true cn rn ls)).map eK)]⟩) := by
 have hsz : rn * cn ≤ 1000 * 1000 := Nat.mul_le_mul hr hc
 refine Ctr.of (rs := [.cell 6 72]) Tok false Tryz.func90 rfl rfl rfl rfl (by simp [ofDL]) (fun w0 kp => ?_)
 simp only [↓sx0, sxE, encs, sevalprocAttr]
 refine LoopW.comp [1, 2, 3, 6, 7, 8] (by simp only [sx2, encs, sxR, sevalprocAttr] <;> (try simp) <;> (try omega)) ?_
 simp only [sx2, sxR, sevalprocAttr]
 refine LoopW.up Tok (fun q : Nat => [(8, (.v (.int .i64 q)))]) (fun q => [(2, [(.v (.int .i64 cn)), (.v (.int .i64 rn)), .row 0])]) (fun q => []) (fun q => [.own 163 1 ((grid cn q (mirG true true cn rn ls)).map eK)]) (fun q => q ≤ rn) (fun q => rn - q) (0) (by simp only [sx2, encs, sxR, sevalprocAttr] <;> (try simp) <;> (try omega)) ?_ ?_
 ·omega
 rintro q hq1
 simp only [↓sx0, sxE, encs, sevalprocAttr]
 refine BrW.dec (fun hlt => ?_) (fun hlt => ?_)
 ·simp only [↓sx0, sxE, encs, sevalprocAttr]
  have hq2 : q < rn := by omega
  refine LoopW.comp [1, 2, 3, 6, 7, 8, 9] (by simp only [sx2, encs, sxR, sevalprocAttr] <;> (try simp) <;> (try omega)) ?_
  simp only [sx2, sxR, sevalprocAttr]
  refine LoopW.up Tok (fun k : Nat => [(9, (.v (.int .i64 k)))]) (fun k => []) (fun k => [(0, ((grid cn q (mirG true true cn rn ls)) ++ gridRow k (mirG true true cn rn ls) q).map eK)]) (fun k => []) (fun k => k ≤ cn) (fun k => cn - k) (0) (by simp only [sx2, encs, sxR, sevalprocAttr] <;> (try simp) <;> (try omega)) ?_ ?_
  ·omega
  rintro k hk1
  simp only [↓sx0, sxE, encs, sevalprocAttr]
  refine BrW.dec (fun hlt2 => ?_) (fun hlt2 => ?_)
  ·have hk2 : k < cn := by omega
   have hqk := cell_lt hq2 hk2
   have hy : (rn - 1 - q) < rn := by omega
   have hx : (cn - 1 - k) < cn := by omega
   have hxy := cell_lt hy hx
   have ey : ((rn : Int) - 1 - q) * cn = (((rn - 1 - q) * cn : Nat) : Int) := by rw [show ((rn : Int) - 1 - q) = (((rn - 1 - q) : Nat) : Int) by omega]; push_cast; rfl
   have i1 := stkAt_get (ls := ls) (i := (rn - 1 - q) * cn + (cn - 1 - k)) (by omega)
   simp only [↓sx0, sxE, encs, sevalprocAttr]
   repeat ((with_reducible refine Vc.go ?_ fun _ => ?_); (focus (first | omega | (simp only [InK]; omega) | (simp [InK]; done) | (simp [InK]; omega))); simp only [↓sx0, sxE, encs, sevalprocAttr])
   refine DrawW.plan Tok mixed (.q 0 <| .q 1 <| .q 2 <| .q 3 <| .q 4 <| .q 5 <| .q 6 <| .q 7 <| .q 8 <| .q 9 <| .q 10 <| .q 11 <| .e 12 [1] <| .e 13 [] <| .q 14 <| .e 15 [] <| .done) (by kernel_rfl) (by kernel_rfl) ?_
   simp only [↓sx0, sxE, encs, sevalprocAttr]
   repeat ((with_reducible refine Vc.go ?_ fun _ => ?_); (focus (first | omega | (simp only [InK]; omega) | (simp [InK]; done) | (simp [InK]; omega))); simp only [↓sx0, sxE, encs, sevalprocAttr])
   rw [ey]
   repeat ((with_reducible refine Vc.go ?_ fun _ => ?_); (focus (first | omega | (simp only [InK]; omega) | (simp [InK]; done) | (simp [InK]; omega))); simp only [↓sx0, sxE, encs, sevalprocAttr])
   refine IxW.map _ (by omega) (by rw [show ((((rn - 1 - q) * cn : Nat) : Int) + ((cn : Int) - 1 - k)).toNat = (rn - 1 - q) * cn + (cn - 1 - k) by omega]; exact i1) ?_
   simp only [↓sx0, sxE, encs, sevalprocAttr]
   (with_reducible refine Vc.go ?_ fun _ => ?_); focus (first | omega | (simp only [InK]; omega) | (simp [grid_length, gridRow_length, InK]; done) | (simp [grid_length, gridRow_length, InK]; omega))
   simp only [↓sx0, sxE, encs, sevalprocAttr]
   (with_reducible refine Vc.go ?_ fun _ => ?_); focus (first | omega | (simp only [InK]; omega) | (simp [InK]; done) | (simp [InK]; omega))
   simp only [↓sx0, sxE, encs, sevalprocAttr]
   refine ⟨k + 1, StLe.auto (by simp only [sx2, encs, sxR, sevalprocAttr] <;> (try simp [gridRow_succ, mirG, encs]) <;> (try omega)), ?_, ?_⟩
   ·omega
   ·omega
  ·simp only [↓sx0, sxE, encs, sevalprocAttr]
   have : k = cn := by omega
   subst this
   (with_reducible refine Vc.go ?_ fun _ => ?_); focus (first | omega | (simp only [InK]; omega) | (simp [InK]; done) | (simp [InK]; omega))
   simp only [↓sx0, sxE, encs, sevalprocAttr]
   refine ⟨q + 1, StLe.auto (by simp only [sx2, encs, sxR, sevalprocAttr] <;> (try simp [grid_succ, encs]) <;> (try omega)), ?_, ?_⟩
   ·omega
   ·omega
 ·simp only [↓sx0, sxE, encs, sevalprocAttr]
  have : q = rn := by omega
  subst this
  exact EndW.r [some 0] (by simp) (by simp only [sx4, sxF, encs, kpLL_map, sxR, sevalprocAttr] <;> simp [kpL, kpD]) (by simp only [sx4, sxF, encs, kpLL_map, sxR, sevalprocAttr] <;> simp [kpL, kpD]) (by simp only [sx4, sxF, encs, kpLL_map, sxR, sevalprocAttr] <;> simp [kpL, kpD]) (by simp only [sx4, sxF, encs, kpLL_map, sxR, sevalprocAttr] <;> simp [kpL, kpD])
end Go.Proofs.YtgiegokdcmkfeaaGreatDoor
/-
 Chapter 6, walks: the document's piles folded left, and up.
-/
namespace Go.Proofs.YtgiegokdcmkfeaaGreatDoor
open Go Go.Vx
set_option maxRecDepth 20000
theorem turnOver_s (b : Bool) (l : List Leaf) (hf : Fine l) (hl : l.length ≤ 1000000) : Ctr Tryz.prog 110 [.sl b 4 (l.map eL), (.v (.int .i64 1)), (.v (.int .i64 0))] (fun rr => rr = ⟨.row 0, [.own 79 4 ((l.reverse.map (flip false)).map eL)]⟩) := by
 have := turnedO_s b 1 0 l (.inr rfl) (.inl rfl) hf hl
 rwa [mdl_over (fine_rev hf)] at this
theorem turnBoth_s (b : Bool) (l : List Leaf) (hf : Fine l) (hl : l.length ≤ 1000000) : Ctr Tryz.prog 110 [.sl b 4 (l.map eL), (.v (.int .i64 1)), (.v (.int .i64 1))] (fun rr => rr = ⟨.row 0, [.own 79 4 ((l.reverse.map (flip true)).map eL)]⟩) := by
 have := turnedO_s b 1 1 l (.inr rfl) (.inr rfl) hf hl
 rwa [mdl_both (fine_rev hf)] at this
theorem turnOverF_s (b : Bool) (l : List Leaf) (hf : Fine l) (hl : l.length ≤ 1000000) : Ctr Tryz.prog 110 [.sl b 4 (l.map eL), (.v (.int .i64 1)), (.v (.int .i64 0))] (fun rr => rr = ⟨.sl true 4 ((l.reverse.map (flip false)).map eL), []⟩) := by
 have := turnedF_s b 1 0 l (.inr rfl) (.inl rfl) hf hl
 rwa [mdl_over (fine_rev hf)] at this
theorem turnRound_s (b : Bool) (l : List Leaf) (hf : Fine l) (hl : l.length ≤ 1000000) : Ctr Tryz.prog 110 [.sl b 4 (l.map eL), (.v (.int .i64 0)), (.v (.int .i64 1))] (fun rr => rr = ⟨.sl true 4 ((l.reverse.map rnd1).map eL), []⟩) := by
 have := turnedF_s b 0 1 l (.inl rfl) (.inr rfl) hf hl
 rwa [mdl_round (fine_rev hf)] at this
theorem turnNone_s (b : Bool) (l : List Leaf) (hf : Fine l) (hl : l.length ≤ 1000000) : Ctr Tryz.prog 110 [.sl b 4 (l.map eL), (.v (.int .i64 0)), (.v (.int .i64 0))] (fun rr => rr = ⟨.sl true 4 (l.reverse.map eL), []⟩) := by
 have := turnedF_s b 0 0 l (.inl rfl) (.inl rfl) hf hl
 rwa [mdl_none (fine_rev hf)] at this
theorem laidLeft_no {cn rn first : Nat} {ls : List (List Leaf)} {k q : Nat} (h : ¬ 2 * first - 1 - k < cn) : laidAt cn rn first false false ls k q = stkAt ls (q * cn + k) := by
 simp only [laidAt, getAt, Bool.false_eq_true, if_false, if_true, h]
theorem laidLeft_yes {cn rn first : Nat} {ls : List (List Leaf)} {k q : Nat} (h : 2 * first - 1 - k < cn) : laidAt cn rn first false false ls k q = (stkAt ls (q * cn + (2 * first - 1 - k))).reverse.map (flip false) ++ stkAt ls (q * cn + k) := by
 simp only [laidAt, getAt, Bool.false_eq_true, if_false, if_true, h]
set_option maxHeartbeats 1000000 in
theorem foldLeft_s (b : Bool) (cn rn first : Nat) (count : Int) (ls : List (List Leaf)) (hf : FineP ls) (hn : ls.length = rn * cn) (hc : cn ≤ 1000) (hr : rn ≤ 1000) (hcnt : (cn : Int) - count = first) (hfi : first ≤ cn) : Ctr Tryz.prog 89 [.agg [(.v (.int .i64 cn)), (.v (.int .i64 rn)), .sl b 1 (ls.map eK)], (.v (.int .i64 count))] (fun rr => rr = ⟨.agg [(.v (.int .i64 first)), (.v (.int .i64 rn)), .sl true 1 ((laidG cn rn first false false ls).map eK)], []⟩) := by
 have hsz : rn * cn ≤ 1000 * 1000 := Nat.mul_le_mul hr hc
 have hG : laidG cn rn first false false ls = grid first rn (fun c r => laidAt cn rn first false false ls c r) := by simp only [laidG, Bool.false_eq_true, if_false, if_true]
 rw [hG]
 refine Ctr.of (rs := [.cell 4 72]) Tok true Tryz.func89 rfl rfl rfl rfl (by simp [ofDL]) (fun w0 kp => ?_)
 simp only [↓sx0, sxE, encs, sevalprocAttr]
 (with_reducible refine Vc.go ?_ fun _ => ?_); focus (first | omega | (simp only [InK]; omega) | (simp [InK]; done) | (simp [InK]; omega))
 simp only [↓sx0, sxE, encs, sevalprocAttr]
 rw [hcnt]
 refine LoopW.comp [2, 4, 5, 6, 7] (by simp only [sx2, encs, sxR, sevalprocAttr] <;> (try simp) <;> (try omega)) ?_
 simp only [sx2, sxR, sevalprocAttr]
 refine LoopW.up Tok (fun q : Nat => [(7, (.v (.int .i64 q)))]) (fun q => [(2, [(.v (.int .i64 first)), (.v (.int .i64 rn)), .row 0])]) (fun q => []) (fun q => [.own 163 1 ((grid first q (fun c r => laidAt cn rn first false false ls c r)).map eK)]) (fun q => q ≤ rn) (fun q => rn - q) (0) (by simp only [sx2, encs, sxR, sevalprocAttr] <;> (try simp) <;> (try omega)) ?_ ?_
 ·omega
 rintro q hq1
 simp only [↓sx0, sxE, encs, sevalprocAttr]
 refine BrW.dec (fun hlt => ?_) (fun hlt => ?_)
 ·simp only [↓sx0, sxE, encs, sevalprocAttr]
  have hq2 : q < rn := by omega
  refine LoopW.comp [2, 4, 5, 6, 7, 8] (by simp only [sx2, encs, sxR, sevalprocAttr] <;> (try simp) <;> (try omega)) ?_
  simp only [sx2, sxR, sevalprocAttr]
  refine LoopW.up Tok (fun k : Nat => [(8, (.v (.int .i64 k)))]) (fun k => []) (fun k => [(0, ((grid first q (fun c r => laidAt cn rn first false false ls c r)) ++ gridRow k (fun c r => laidAt cn rn first false false ls c r) q).map eK)]) (fun k => []) (fun k => k ≤ first) (fun k => first - k) (0) (by simp only [sx2, encs, sxR, sevalprocAttr] <;> (try simp) <;> (try omega)) ?_ ?_
  ·omega
  rintro k hk1
  simp only [↓sx0, sxE, encs, sevalprocAttr]
  refine BrW.dec (fun hlt2 => ?_) (fun hlt2 => ?_)
  ·have hk2 : k < cn := by omega
   have hqk := cell_lt hq2 hk2
   have hqk2 := cell_lt (rows := rn) (cols := first) (show q < rn by omega) (show k < first by omega)
   have hsz2 : rn * first ≤ 1000 * 1000 := Nat.mul_le_mul (by omega) (by omega)
   have i1 := stkAt_get (ls := ls) (i := q * cn + k) (by omega)
   obtain ⟨f1, f2⟩ := stkAt_fine hf (q * cn + k)
   simp only [↓sx0, sxE, encs, sevalprocAttr]
   repeat ((with_reducible refine Vc.go ?_ fun _ => ?_); (focus (first | omega | (simp only [InK]; omega) | (simp [InK]; done) | (simp [InK]; omega))); simp only [↓sx0, sxE, encs, sevalprocAttr])
   refine IxW.map _ (by omega) (by rw [show ((q : Int) * cn + k).toNat = q * cn + k by push_cast; omega]; exact i1) ?_
   simp only [↓sx0, sxE, encs, sevalprocAttr]
   repeat ((with_reducible refine Vc.go ?_ fun _ => ?_); (focus (first | omega | (simp only [InK]; omega) | (simp [InK]; done) | (simp [InK]; omega))); simp only [↓sx0, sxE, encs, sevalprocAttr])
   refine BrW.dec (fun hfr => ?_) (fun hfr => ?_)
   ·have hfr2 : 2 * first - 1 - k < cn := by omega
    have hto : (q * cn + (2 * first - 1 - k)) < rn * cn := cell_lt hq2 hfr2
    have i2 := stkAt_get (ls := ls) (i := (q * cn + (2 * first - 1 - k))) (by omega)
    obtain ⟨f3, f4⟩ := stkAt_fine hf (q * cn + (2 * first - 1 - k))
    have hla := laidLeft_yes (rn := rn) (ls := ls) (cn := cn) (first := first) (k := k) (q := q) hfr2
    have e1 : (2 * (first : Int) - 1 - k) = ((2 * first - 1 - k : Nat) : Int) := by omega
    rw [e1]
    simp only [↓sx0, sxE, encs, sevalprocAttr]
    repeat ((with_reducible refine Vc.go ?_ fun _ => ?_); (focus (first | omega | (simp only [InK]; omega) | (simp [InK]; done) | (simp [InK]; omega))); simp only [↓sx0, sxE, encs, sevalprocAttr])
    refine IxW.map _ (by omega) (by rw [show ((q : Int) * cn + ((2 * first - 1 - k : Nat) : Int)).toNat = (q * cn + (2 * first - 1 - k)) by push_cast; omega]; exact i2) ?_
    simp only [↓sx0, sxE, encs, sevalprocAttr]
    refine CallI.ctr (turnOver_s true (stkAt ls (q * cn + (2 * first - 1 - k))) f3 (by omega)) (by simp only [sx3, encs, sxR, sevalprocAttr] <;> (try simp) <;> (try rfl)) ?_
    rintro _ rfl
    simp only [↓sx0, sxE, encs, sevalprocAttr]
    repeat ((with_reducible refine Vc.go ?_ fun _ => ?_); (focus (first | omega | (simp only [InK]; omega) | (simp [InK]; done) | (simp [InK]; omega))); simp only [↓sx0, sxE, encs, sevalprocAttr])
    (with_reducible refine Vc.go ?_ fun hvx => ?_); focus (simp only [grid_length, gridRow_length, InK]; omega)
    clear hvx
    simp only [↓sx0, sxE, encs, sevalprocAttr]
    repeat ((with_reducible refine Vc.go ?_ fun _ => ?_); (focus (first | omega | (simp only [InK]; omega) | (simp [InK]; done) | (simp [InK]; omega))); simp only [↓sx0, sxE, encs, sevalprocAttr])
    refine ⟨k + 1, StLe.auto (by simp only [sx2, encs, sxR, sevalprocAttr] <;> (try simp [gridRow_succ, hla, encs]) <;> (try omega)), ?_, ?_⟩
    ·omega
    ·omega
   ·have hfr2 : ¬ 2 * first - 1 - k < cn := by omega
    have hla := laidLeft_no (rn := rn) (ls := ls) (cn := cn) (first := first) (k := k) (q := q) hfr2
    simp only [↓sx0, sxE, encs, sevalprocAttr]
    repeat ((with_reducible refine Vc.go ?_ fun _ => ?_); (focus (first | omega | (simp only [InK]; omega) | (simp [InK]; done) | (simp [InK]; omega))); simp only [↓sx0, sxE, encs, sevalprocAttr])
    (with_reducible refine Vc.go ?_ fun hvx => ?_); focus (simp only [grid_length, gridRow_length, InK]; omega)
    clear hvx
    simp only [↓sx0, sxE, encs, sevalprocAttr]
    repeat ((with_reducible refine Vc.go ?_ fun _ => ?_); (focus (first | omega | (simp only [InK]; omega) | (simp [InK]; done) | (simp [InK]; omega))); simp only [↓sx0, sxE, encs, sevalprocAttr])
    refine ⟨k + 1, StLe.auto (by simp only [sx2, encs, sxR, sevalprocAttr] <;> (try simp [gridRow_succ, hla, encs]) <;> (try omega)), ?_, ?_⟩
    ·omega
    ·omega
  ·simp only [↓sx0, sxE, encs, sevalprocAttr]
   have : k = first := by omega
   subst this
   (with_reducible refine Vc.go ?_ fun _ => ?_); focus (first | omega | (simp only [InK]; omega) | (simp [InK]; done) | (simp [InK]; omega))
   simp only [↓sx0, sxE, encs, sevalprocAttr]
   refine ⟨q + 1, StLe.auto (by simp only [sx2, encs, sxR, sevalprocAttr] <;> (try simp [grid_succ, encs]) <;> (try omega)), ?_, ?_⟩
   ·omega
   ·omega
 ·simp only [↓sx0, sxE, encs, sevalprocAttr]
  have : q = rn := by omega
  subst this
  refine EndW.fn ?_ ?_ <;> simp only [sx4, encs, kpLL_map, sxR, sevalprocAttr] <;> (try simp) <;> (try omega)
theorem laidUp_no {cn rn first : Nat} {ls : List (List Leaf)} {k q : Nat} (h : ¬ 2 * first - 1 - q < rn) : laidAt cn rn first true false ls q k = stkAt ls (q * cn + k) := by
 simp only [laidAt, getAt, Bool.false_eq_true, if_false, if_true, h]
theorem laidUp_yes {cn rn first : Nat} {ls : List (List Leaf)} {k q : Nat} (h : 2 * first - 1 - q < rn) : laidAt cn rn first true false ls q k = (stkAt ls ((2 * first - 1 - q) * cn + k)).reverse.map (flip true) ++ stkAt ls (q * cn + k) := by
 simp only [laidAt, getAt, Bool.false_eq_true, if_false, if_true, h]
set_option maxHeartbeats 1000000 in
theorem foldUp_s (b : Bool) (cn rn first : Nat) (count : Int) (ls : List (List Leaf)) (hf : FineP ls) (hn : ls.length = rn * cn) (hc : cn ≤ 1000) (hr : rn ≤ 1000) (hcnt : (rn : Int) - count = first) (hfi : first ≤ rn) : Ctr Tryz.prog 91 [.agg [(.v (.int .i64 cn)), (.v (.int .i64 rn)), .sl b 1 (ls.map eK)], (.v (.int .i64 count))] (fun rr => rr = ⟨.agg [(.v (.int .i64 cn)), (.v (.int .i64 first)), .sl true 1 ((laidG cn rn first true false ls).map eK)], []⟩) := by
 have hsz : rn * cn ≤ 1000 * 1000 := Nat.mul_le_mul hr hc
 have hG : laidG cn rn first true false ls = grid cn first (fun c r => laidAt cn rn first true false ls r c) := by simp only [laidG, Bool.false_eq_true, if_false, if_true]
 rw [hG]
 refine Ctr.of (rs := [.cell 4 72]) Tok true Tryz.func91 rfl rfl rfl rfl (by simp [ofDL]) (fun w0 kp => ?_)
 simp only [↓sx0, sxE, encs, sevalprocAttr]
 (with_reducible refine Vc.go ?_ fun _ => ?_); focus (first | omega | (simp only [InK]; omega) | (simp [InK]; done) | (simp [InK]; omega))
 simp only [↓sx0, sxE, encs, sevalprocAttr]
 rw [hcnt]
 refine LoopW.comp [2, 4, 5, 6, 7] (by simp only [sx2, encs, sxR, sevalprocAttr] <;> (try simp) <;> (try omega)) ?_
 simp only [sx2, sxR, sevalprocAttr]
 refine LoopW.up Tok (fun q : Nat => [(7, (.v (.int .i64 q)))]) (fun q => [(2, [(.v (.int .i64 cn)), (.v (.int .i64 first)), .row 0])]) (fun q => []) (fun q => [.own 163 1 ((grid cn q (fun c r => laidAt cn rn first true false ls r c)).map eK)]) (fun q => q ≤ first) (fun q => first - q) (0) (by simp only [sx2, encs, sxR, sevalprocAttr] <;> (try simp) <;> (try omega)) ?_ ?_
 ·omega
 rintro q hq1
 simp only [↓sx0, sxE, encs, sevalprocAttr]
 refine BrW.dec (fun hlt => ?_) (fun hlt => ?_)
 ·simp only [↓sx0, sxE, encs, sevalprocAttr]
  have hq2 : q < rn := by omega
  refine LoopW.comp [2, 4, 5, 6, 7, 8] (by simp only [sx2, encs, sxR, sevalprocAttr] <;> (try simp) <;> (try omega)) ?_
  simp only [sx2, sxR, sevalprocAttr]
  refine LoopW.up Tok (fun k : Nat => [(8, (.v (.int .i64 k)))]) (fun k => []) (fun k => [(0, ((grid cn q (fun c r => laidAt cn rn first true false ls r c)) ++ gridRow k (fun c r => laidAt cn rn first true false ls r c) q).map eK)]) (fun k => []) (fun k => k ≤ cn) (fun k => cn - k) (0) (by simp only [sx2, encs, sxR, sevalprocAttr] <;> (try simp) <;> (try omega)) ?_ ?_
  ·omega
  rintro k hk1
  simp only [↓sx0, sxE, encs, sevalprocAttr]
  refine BrW.dec (fun hlt2 => ?_) (fun hlt2 => ?_)
  ·have hk2 : k < cn := by omega
   have hqk := cell_lt hq2 hk2
   have hqk2 := cell_lt (rows := first) (cols := cn) (show q < first by omega) (show k < cn by omega)
   have hsz2 : first * cn ≤ 1000 * 1000 := Nat.mul_le_mul (by omega) (by omega)
   have i1 := stkAt_get (ls := ls) (i := q * cn + k) (by omega)
   obtain ⟨f1, f2⟩ := stkAt_fine hf (q * cn + k)
   simp only [↓sx0, sxE, encs, sevalprocAttr]
   repeat ((with_reducible refine Vc.go ?_ fun _ => ?_); (focus (first | omega | (simp only [InK]; omega) | (simp [InK]; done) | (simp [InK]; omega))); simp only [↓sx0, sxE, encs, sevalprocAttr])
   refine IxW.map _ (by omega) (by rw [show ((q : Int) * cn + k).toNat = q * cn + k by push_cast; omega]; exact i1) ?_
   simp only [↓sx0, sxE, encs, sevalprocAttr]
   repeat ((with_reducible refine Vc.go ?_ fun _ => ?_); (focus (first | omega | (simp only [InK]; omega) | (simp [InK]; done) | (simp [InK]; omega))); simp only [↓sx0, sxE, encs, sevalprocAttr])
   refine BrW.dec (fun hfr => ?_) (fun hfr => ?_)
   ·have hfr2 : 2 * first - 1 - q < rn := by omega
    have hto : ((2 * first - 1 - q) * cn + k) < rn * cn := cell_lt hfr2 hk2
    have i2 := stkAt_get (ls := ls) (i := ((2 * first - 1 - q) * cn + k)) (by omega)
    obtain ⟨f3, f4⟩ := stkAt_fine hf ((2 * first - 1 - q) * cn + k)
    have hla := laidUp_yes (rn := rn) (ls := ls) (cn := cn) (first := first) (k := k) (q := q) hfr2
    have e1 : (2 * (first : Int) - 1 - q) = ((2 * first - 1 - q : Nat) : Int) := by omega
    rw [e1]
    simp only [↓sx0, sxE, encs, sevalprocAttr]
    repeat ((with_reducible refine Vc.go ?_ fun _ => ?_); (focus (first | omega | (simp only [InK]; omega) | (simp [InK]; done) | (simp [InK]; omega))); simp only [↓sx0, sxE, encs, sevalprocAttr])
    refine IxW.map _ (by omega) (by rw [show (((2 * first - 1 - q : Nat) : Int) * cn + k).toNat = ((2 * first - 1 - q) * cn + k) by push_cast; omega]; exact i2) ?_
    simp only [↓sx0, sxE, encs, sevalprocAttr]
    refine CallI.ctr (turnBoth_s true (stkAt ls ((2 * first - 1 - q) * cn + k)) f3 (by omega)) (by simp only [sx3, encs, sxR, sevalprocAttr] <;> (try simp) <;> (try rfl)) ?_
    rintro _ rfl
    simp only [↓sx0, sxE, encs, sevalprocAttr]
    repeat ((with_reducible refine Vc.go ?_ fun _ => ?_); (focus (first | omega | (simp only [InK]; omega) | (simp [InK]; done) | (simp [InK]; omega))); simp only [↓sx0, sxE, encs, sevalprocAttr])
    (with_reducible refine Vc.go ?_ fun hvx => ?_); focus (simp only [grid_length, gridRow_length, InK]; omega)
    clear hvx
    simp only [↓sx0, sxE, encs, sevalprocAttr]
    repeat ((with_reducible refine Vc.go ?_ fun _ => ?_); (focus (first | omega | (simp only [InK]; omega) | (simp [InK]; done) | (simp [InK]; omega))); simp only [↓sx0, sxE, encs, sevalprocAttr])
    refine ⟨k + 1, StLe.auto (by simp only [sx2, encs, sxR, sevalprocAttr] <;> (try simp [gridRow_succ, hla, encs]) <;> (try omega)), ?_, ?_⟩
    ·omega
    ·omega
   ·have hfr2 : ¬ 2 * first - 1 - q < rn := by omega
    have hla := laidUp_no (rn := rn) (ls := ls) (cn := cn) (first := first) (k := k) (q := q) hfr2
    simp only [↓sx0, sxE, encs, sevalprocAttr]
    repeat ((with_reducible refine Vc.go ?_ fun _ => ?_); (focus (first | omega | (simp only [InK]; omega) | (simp [InK]; done) | (simp [InK]; omega))); simp only [↓sx0, sxE, encs, sevalprocAttr])
    (with_reducible refine Vc.go ?_ fun hvx => ?_); focus (simp only [grid_length, gridRow_length, InK]; omega)
    clear hvx
    simp only [↓sx0, sxE, encs, sevalprocAttr]
    repeat ((with_reducible refine Vc.go ?_ fun _ => ?_); (focus (first | omega | (simp only [InK]; omega) | (simp [InK]; done) | (simp [InK]; omega))); simp only [↓sx0, sxE, encs, sevalprocAttr])
    refine ⟨k + 1, StLe.auto (by simp only [sx2, encs, sxR, sevalprocAttr] <;> (try simp [gridRow_succ, hla, encs]) <;> (try omega)), ?_, ?_⟩
    ·omega
    ·omega
  ·simp only [↓sx0, sxE, encs, sevalprocAttr]
   have : k = cn := by omega
   subst this
   (with_reducible refine Vc.go ?_ fun _ => ?_); focus (first | omega | (simp only [InK]; omega) | (simp [InK]; done) | (simp [InK]; omega))
   simp only [↓sx0, sxE, encs, sevalprocAttr]
   refine ⟨q + 1, StLe.auto (by simp only [sx2, encs, sxR, sevalprocAttr] <;> (try simp [grid_succ, encs]) <;> (try omega)), ?_, ?_⟩
   ·omega
   ·omega
 ·simp only [↓sx0, sxE, encs, sevalprocAttr]
  have : q = first := by omega
  subst this
  refine EndW.fn ?_ ?_ <;> simp only [sx4, encs, kpLL_map, sxR, sevalprocAttr] <;> (try simp) <;> (try omega)
/-- places turned one by one. -/
def ovT (T : List Leaf → List Leaf) (M : List (List Leaf)) (k : Nat) : List (List Leaf) := (M.take k).map T ++ M.drop k
theorem ovT_zero (T : List Leaf → List Leaf) (M : List (List Leaf)) : ovT T M 0 = M := by simp [ovT]
theorem ovT_end (T : List Leaf → List Leaf) (M : List (List Leaf)) : ovT T M M.length = M.map T := by simp [ovT]
theorem ovT_len {T : List Leaf → List Leaf} {M : List (List Leaf)} {k : Nat} (h : k ≤ M.length) : (ovT T M k).length = M.length := by simp [ovT]; omega
theorem ovT_get {T : List Leaf → List Leaf} {M : List (List Leaf)} {k : Nat} (h : k < M.length) : (ovT T M k)[k]? = some M[k] := by
 unfold ovT
 rw [List.getElem?_append_right (by simp; omega), List.getElem?_drop]
 simp only [List.length_map, List.length_take, show k + (k - min k M.length) = k by omega]
 exact List.getElem?_eq_getElem h
theorem ovT_set {T : List Leaf → List Leaf} {M : List (List Leaf)} {k : Nat} (h : k < M.length) : (ovT T M k).set k (T M[k]) = ovT T M (k + 1) := by
 unfold ovT
 rw [List.set_append_right _ _ (by simp; omega), List.take_succ_eq_append_getElem h, List.map_append, List.append_assoc, List.drop_eq_getElem_cons h]
 simp only [List.length_map, List.length_take, show k - min k M.length = 0 by omega, List.set_cons_zero, List.map_cons, List.map_nil, List.cons_append, List.nil_append]
theorem fineP_mir {mc mr : Bool} {cn rn : Nat} {ls : List (List Leaf)} (h : FineP ls) : FineP (grid cn rn (mirG mc mr cn rn ls)) := fun l hl => by
 obtain ⟨c, r, _, _, rfl⟩ := mem_grid hl
 exact stkAt_fine h _
theorem grid_mapT {α β : Type} (h : α → β) (cols rows : Nat) (f : Nat → Nat → α) : (grid cols rows f).map h = grid cols rows fun c r => h (f c r) := by
 unfold grid gridRow
 rw [List.map_flatMap]
 congr 1
 funext r
 rw [List.map_map]
 rfl
theorem overR_s (b : Bool) (cn rn : Nat) (ls : List (List Leaf)) (hf : FineP ls) (hn : ls.length = rn * cn) (hc : cn ≤ 1000) (hr : rn ≤ 1000) : Ctr Tryz.prog 92 [.agg [(.v (.int .i64 cn)), (.v (.int .i64 rn)), .sl b 1 (ls.map eK)]] (fun rr => rr = ⟨.agg [(.v (.int .i64 cn)), (.v (.int .i64 rn)), .sl true 1 ((overG cn rn ls).map eK)], []⟩) := by
 have hsz : rn * cn ≤ 1000 * 1000 := Nat.mul_le_mul hr hc
 have hM : (grid cn rn (mirG true false cn rn ls)).map (fun l : List Leaf => l.reverse.map (flip false)) = overG cn rn ls := grid_mapT (fun l : List Leaf => l.reverse.map (flip false)) cn rn _
 have hfm : FineP (grid cn rn (mirG true false cn rn ls)) := fineP_mir hf
 have hml : (grid cn rn (mirG true false cn rn ls)).length = rn * cn := grid_length _ _ _
 rw [← hM]
 refine Ctr.of (rs := [.cell 2 72]) Tok true Tryz.func92 rfl rfl rfl rfl (by simp [ofDL]) (fun w0 kp => ?_)
 simp only [↓sx0, sxE, encs, sevalprocAttr]
 refine CallI.ctr (mirroredC_s b cn rn ls hn hc hr) (by simp only [sx3, encs, sxR, sevalprocAttr] <;> (try simp) <;> (try rfl)) ?_
 rintro _ rfl
 simp only [↓sx0, sxE, encs, sevalprocAttr]
 generalize (grid cn rn (mirG true false cn rn ls)) = M at *
 clear hM
 refine LoopW.comp [2, 3, 4] (by simp only [sx2, encs, sxR, sevalprocAttr] <;> (try simp) <;> (try omega)) ?_
 simp only [sx2, sxR, sevalprocAttr]
 refine LoopW.up Tok (fun k : Nat => [(4, (.v (.int .i64 k)))]) (fun k => []) (fun k => [(0, (ovT (fun l : List Leaf => l.reverse.map (flip false)) M k).map eK)]) (fun k => []) (fun k => k ≤ M.length) (fun k => M.length - k) (0) (by simp only [sx2, encs, sxR, sevalprocAttr] <;> (try simp [ovT_zero, encs]) <;> (try omega)) ?_ ?_
 ·omega
 rintro k hk
 have hol := ovT_len (T := (fun l : List Leaf => l.reverse.map (flip false))) hk
 simp only [↓sx0, sxE, encs, sevalprocAttr]
 refine BrW.dec (fun hlt => ?_) (fun hlt => ?_)
 ·have hk2 : k < M.length := by omega
  have hg := ovT_get (T := (fun l : List Leaf => l.reverse.map (flip false))) hk2
  obtain ⟨f1, f2⟩ := hfm _ (List.getElem_mem hk2)
  have hst : ((ovT (fun l : List Leaf => l.reverse.map (flip false)) M k).map eK).modify ((k : Int)).toNat (modE · 0 [D.sl true 4 ((M[k].reverse.map (flip false)).map eL)]) = (ovT (fun l : List Leaf => l.reverse.map (flip false)) M (k + 1)).map eK := by
   rw [Int.toNat_natCast, ← ovT_set hk2]; exact modify_map hg (M[k].reverse.map (flip false)) rfl
  simp only [↓sx0, sxE, encs, sevalprocAttr]
  refine DrawW.plan Tok mixed (.q 0 <| .q 1 <| .q 2 <| .q 3 <| .q 4 <| .q 5 <| .q 6 <| .q 7 <| .e 8 [1] <| .q 9 <| .e 10 [] <| .done) (by kernel_rfl) (by kernel_rfl) ?_
  simp only [↓sx0, sxE, encs, sevalprocAttr]
  repeat ((with_reducible refine Vc.go ?_ fun _ => ?_); (focus (first | omega | (simp only [InK]; omega) | (simp [hol, InK]; done) | (simp [hol, InK]; omega))); simp only [↓sx0, sxE, encs, sevalprocAttr])
  refine IxW.map M[k] (by omega) (by simpa using hg) ?_
  simp only [↓sx0, sxE, encs, sevalprocAttr]
  refine CallI.fn (turnOverF_s true M[k] f1 (by omega)) (by simp only [sx3, encs, sxR, sevalprocAttr] <;> (try simp) <;> (try rfl)) ?_
  simp only [↓sx0, sxE, encs, sevalprocAttr]
  repeat ((with_reducible refine Vc.go ?_ fun _ => ?_); (focus (first | omega | (simp only [InK]; omega) | (simp [hol, InK]; done) | (simp [hol, InK]; omega))); simp only [↓sx0, sxE, encs, sevalprocAttr])
  rw [hst]
  refine ⟨k + 1, StLe.auto (by simp only [sx2, encs, sxR, sevalprocAttr] <;> (try simp) <;> (try omega)), ?_, ?_⟩
  ·omega
  ·omega
 ·simp only [↓sx0, sxE, encs, sevalprocAttr]
  have : k = M.length := by omega
  subst this
  rw [ovT_end]
  refine EndW.fn ?_ ?_ <;> simp only [sx4, encs, kpLL_map, sxR, sevalprocAttr] <;> (try simp) <;> (try omega)
theorem roundR_s (b : Bool) (cn rn : Nat) (ls : List (List Leaf)) (hf : FineP ls) (hn : ls.length = rn * cn) (hc : cn ≤ 1000) (hr : rn ≤ 1000) : Ctr Tryz.prog 93 [.agg [(.v (.int .i64 cn)), (.v (.int .i64 rn)), .sl b 1 (ls.map eK)]] (fun rr => rr = ⟨.agg [(.v (.int .i64 cn)), (.v (.int .i64 rn)), .sl true 1 ((roundG cn rn ls).map eK)], []⟩) := by
 have hsz : rn * cn ≤ 1000 * 1000 := Nat.mul_le_mul hr hc
 have hM : (grid cn rn (mirG true true cn rn ls)).map (fun l : List Leaf => l.map rnd1) = roundG cn rn ls := grid_mapT (fun l : List Leaf => l.map rnd1) cn rn _
 have hfm : FineP (grid cn rn (mirG true true cn rn ls)) := fineP_mir hf
 have hml : (grid cn rn (mirG true true cn rn ls)).length = rn * cn := grid_length _ _ _
 rw [← hM]
 refine Ctr.of (rs := [.cell 2 72]) Tok true Tryz.func93 rfl rfl rfl rfl (by simp [ofDL]) (fun w0 kp => ?_)
 simp only [↓sx0, sxE, encs, sevalprocAttr]
 refine CallI.ctr (mirroredCR_s b cn rn ls hn hc hr) (by simp only [sx3, encs, sxR, sevalprocAttr] <;> (try simp) <;> (try rfl)) ?_
 rintro _ rfl
 simp only [↓sx0, sxE, encs, sevalprocAttr]
 generalize (grid cn rn (mirG true true cn rn ls)) = M at *
 clear hM
 refine LoopW.comp [2, 3, 4] (by simp only [sx2, encs, sxR, sevalprocAttr] <;> (try simp) <;> (try omega)) ?_
 simp only [sx2, sxR, sevalprocAttr]
 refine LoopW.up Tok (fun k : Nat => [(4, (.v (.int .i64 k)))]) (fun k => []) (fun k => [(0, (ovT (fun l : List Leaf => l.map rnd1) M k).map eK)]) (fun k => []) (fun k => k ≤ M.length) (fun k => M.length - k) (0) (by simp only [sx2, encs, sxR, sevalprocAttr] <;> (try simp [ovT_zero, encs]) <;> (try omega)) ?_ ?_
 ·omega
 rintro k hk
 have hol := ovT_len (T := (fun l : List Leaf => l.map rnd1)) hk
 simp only [↓sx0, sxE, encs, sevalprocAttr]
 refine BrW.dec (fun hlt => ?_) (fun hlt => ?_)
 ·have hk2 : k < M.length := by omega
  have hg := ovT_get (T := (fun l : List Leaf => l.map rnd1)) hk2
  obtain ⟨f1, f2⟩ := hfm _ (List.getElem_mem hk2)
  have hst : ((ovT (fun l : List Leaf => l.map rnd1) M k).map eK).modify ((k : Int)).toNat (modE · 0 [D.sl true 4 ((M[k].map rnd1).map eL)]) = (ovT (fun l : List Leaf => l.map rnd1) M (k + 1)).map eK := by
   rw [Int.toNat_natCast, ← ovT_set hk2]; exact modify_map hg (M[k].map rnd1) rfl
  simp only [↓sx0, sxE, encs, sevalprocAttr]
  refine DrawW.plan Tok mixed (.q 0 <| .q 1 <| .q 2 <| .q 3 <| .q 4 <| .q 5 <| .q 6 <| .q 7 <| .e 8 [1] <| .e 9 [1] <| .q 10 <| .e 11 [] <| .done) (by kernel_rfl) (by kernel_rfl) ?_
  simp only [↓sx0, sxE, encs, sevalprocAttr]
  repeat ((with_reducible refine Vc.go ?_ fun _ => ?_); (focus (first | omega | (simp only [InK]; omega) | (simp [hol, InK]; done) | (simp [hol, InK]; omega))); simp only [↓sx0, sxE, encs, sevalprocAttr])
  refine IxW.map M[k] (by omega) (by simpa using hg) ?_
  simp only [↓sx0, sxE, encs, sevalprocAttr]
  refine CallI.fn (turnRound_s true M[k] f1 (by omega)) (by simp only [sx3, encs, sxR, sevalprocAttr] <;> (try simp) <;> (try rfl)) ?_
  simp only [↓sx0, sxE, encs, sevalprocAttr]
  refine CallI.fn (turnNone_s true (M[k].reverse.map rnd1) (fine_rnd (fine_rev f1)) (by simp; omega)) (by simp only [sx3, encs, sxR, sevalprocAttr] <;> (try simp) <;> (try rfl)) ?_
  simp only [↓sx0, sxE, encs, sevalprocAttr]
  rw [show (M[k].reverse.map rnd1).reverse = M[k].map rnd1 by simp]
  repeat ((with_reducible refine Vc.go ?_ fun _ => ?_); (focus (first | omega | (simp only [InK]; omega) | (simp [hol, InK]; done) | (simp [hol, InK]; omega))); simp only [↓sx0, sxE, encs, sevalprocAttr])
  rw [hst]
  refine ⟨k + 1, StLe.auto (by simp only [sx2, encs, sxR, sevalprocAttr] <;> (try simp) <;> (try omega)), ?_, ?_⟩
  ·omega
  ·omega
 ·simp only [↓sx0, sxE, encs, sevalprocAttr]
  have : k = M.length := by omega
  subst this
  rw [ovT_end]
  refine EndW.fn ?_ ?_ <;> simp only [sx4, encs, kpLL_map, sxR, sevalprocAttr] <;> (try simp) <;> (try omega)
end Go.Proofs.YtgiegokdcmkfeaaGreatDoor
