/-
 Chapter 6, walks: the document's piles: stacks turned, sheets seen from the other end.
-/
import Derived.Test.YteajjcbinnjgaaaGreatDoorVGB
import Derived.Test.YteajjcbinnjgaaaGreatDoorVW17
namespace Go.Proofs.YteajjcbinnjgaaaGreatDoor
open Go Go.Vx
set_option linter.unusedSimpArgs false
set_option maxRecDepth 20000
theorem flatR_s (cn rn : Nat) (hc : cn ≤ 1000) (hr : rn ≤ 1000) : Ctr Tryz.prog 60 [(.v (.int .i64 cn)), (.v (.int .i64 rn))] (fun rr => rr = ⟨.agg [(.v (.int .i64 cn)), (.v (.int .i64 rn)), .sl true 1 ((flatG cn rn).map eK)], []⟩) := by
 have hsz : rn * cn ≤ 1000 * 1000 := Nat.mul_le_mul hr hc
 refine Ctr.of (rs := [.cell 4 81]) Tok true Tryz.func60 rfl rfl rfl rfl (by simp [ofDL]) (fun w0 kp => ?_)
 simp only [↓sx0, sxE, encs, sevalprocAttr]
 refine LoopW.comp [0, 1, 4, 5, 6] (by simp only [sx2, encs, sxR, sevalprocAttr] <;> (try simp) <;> (try omega)) ?_
 simp only [sx2, sxR, sevalprocAttr]
 refine LoopW.up Tok (fun q : Nat => [(6, (.v (.int .i64 q)))]) (fun q => [(1, [(.v (.int .i64 cn)), (.v (.int .i64 rn)), .row 0])]) (fun q => []) (fun q => [.own 144 1 ((grid cn q oneL).map eK)]) (fun q => q ≤ rn) (fun q => rn - q) (0) (by simp only [sx2, encs, sxR, sevalprocAttr] <;> (try simp) <;> (try omega)) ?_ ?_
 ·omega
 rintro q hq1
 simp only [↓sx0, sxE, encs, sevalprocAttr]
 refine BrW.dec (fun hlt => ?_) (fun hlt => ?_)
 ·simp only [↓sx0, sxE, encs, sevalprocAttr]
  have hq2 : q < rn := by omega
  refine LoopW.comp [0, 1, 4, 5, 6, 7] (by simp only [sx2, encs, sxR, sevalprocAttr] <;> (try simp) <;> (try omega)) ?_
  simp only [sx2, sxR, sevalprocAttr]
  refine LoopW.up Tok (fun k : Nat => [(7, (.v (.int .i64 k)))]) (fun k => []) (fun k => [(0, ((grid cn q oneL) ++ gridRow k oneL q).map eK)]) (fun k => []) (fun k => k ≤ cn) (fun k => cn - k) (0) (by simp only [sx2, encs, sxR, sevalprocAttr] <;> (try simp) <;> (try omega)) ?_ ?_
  ·omega
  rintro k hk1
  simp only [↓sx0, sxE, encs, sevalprocAttr]
  refine BrW.dec (fun hlt2 => ?_) (fun hlt2 => ?_)
  ·have hk2 : k < cn := by omega
   have hqk := cell_lt hq2 hk2
   simp only [↓sx0, sxE, encs, sevalprocAttr]
   (with_reducible refine Vc.go ?_ fun _ => ?_); focus (first | omega | (simp only [InK]; omega) | (simp [grid_length, gridRow_length, InK]; done) | (simp [grid_length, gridRow_length, InK]; omega))
   simp only [↓sx0, sxE, encs, sevalprocAttr]
   (with_reducible refine Vc.go ?_ fun _ => ?_); focus (first | omega | (simp only [InK]; omega) | (simp [InK]; done) | (simp [InK]; omega))
   simp only [↓sx0, sxE, encs, sevalprocAttr]
   refine ⟨k + 1, StLe.auto (by simp only [sx2, encs, sxR, sevalprocAttr] <;> (try simp [gridRow_succ, oneL, encs]) <;> (try omega)), ?_, ?_⟩
   ·omega
   ·omega
  ·simp only [↓sx0, sxE, encs, sevalprocAttr]
   have : k = cn := by omega
   subst this
   (with_reducible refine Vc.go ?_ fun _ => ?_); focus (first | omega | (simp only [InK]; omega) | (simp [InK]; done) | (simp [InK]; omega))
   simp only [↓sx0, sxE, encs, sevalprocAttr]
   refine ⟨q + 1, StLe.auto (by simp only [sx2, encs, sxR, sevalprocAttr] <;> (try simp [grid_succ, encs]) <;> (try omega)), ?_, ?_⟩
   ·omega
   ·omega
 ·simp only [↓sx0, sxE, encs, sevalprocAttr]
  have : q = rn := by omega
  subst this
  refine EndW.fn ?_ ?_ <;> simp only [sx4, encs, kpLL_map, sxR, sevalprocAttr] <;> (try simp [flatG]) <;> (try omega)
/-- a leaf turned so often over, and so often round. -/
def mdl (o r : Int) (x : Leaf) : Leaf := ⟨x.col, x.row, (x.over + o).tmod 2, (x.round + r).tmod 2⟩
theorem tm2 {a b : Int} (h : 0 ≤ a ∧ a ≤ 1) (k : b = 0 ∨ b = 1) : 0 ≤ (a + b).tmod 2 ∧ (a + b).tmod 2 ≤ 1 := by
 have : (a + b).tmod 2 = (a + b) % 2 := Int.tmod_eq_emod_of_nonneg (by omega)
 omega
theorem tm0 {a : Int} (h : 0 ≤ a ∧ a ≤ 1) : (a + 0).tmod 2 = a := by
 have : (a + 0).tmod 2 = (a + 0) % 2 := Int.tmod_eq_emod_of_nonneg (by omega)
 omega
theorem tm1 {a : Int} (h : 0 ≤ a ∧ a ≤ 1) : (a + 1).tmod 2 = 1 - a := by
 have : (a + 1).tmod 2 = (a + 1) % 2 := Int.tmod_eq_emod_of_nonneg (by omega)
 omega
theorem mdl_over {l : List Leaf} (h : Fine l) : l.map (mdl 1 0) = l.map (flip false) :=
 List.map_congr_left fun x hx => by
  obtain ⟨h1, h2⟩ := h x hx
  simp only [mdl, flip, tm1 h1, tm0 h2, Bool.false_eq_true, if_false]
theorem mdl_both {l : List Leaf} (h : Fine l) : l.map (mdl 1 1) = l.map (flip true) :=
 List.map_congr_left fun x hx => by
  obtain ⟨h1, h2⟩ := h x hx
  simp only [mdl, flip, tm1 h1, tm1 h2, if_true]
theorem mdl_round {l : List Leaf} (h : Fine l) : l.map (mdl 0 1) = l.map rnd1 :=
 List.map_congr_left fun x hx => by
  obtain ⟨h1, h2⟩ := h x hx
  simp only [mdl, rnd1, tm0 h1, tm1 h2]
theorem mdl_none {l : List Leaf} (h : Fine l) : l.map (mdl 0 0) = l := by
 conv => rhs; rw [← List.map_id l]
 exact List.map_congr_left fun x hx => by
  obtain ⟨h1, h2⟩ := h x hx
  simp only [mdl, tm0 h1, tm0 h2, id]
theorem fine_rev {l : List Leaf} (h : Fine l) : Fine l.reverse := fun x hx => h x (List.mem_reverse.1 hx)
/-- the first stacks of a stack that is turned. -/
def tkR (o r : Int) (l : List Leaf) (k : Nat) : List Leaf := (l.reverse.take k).map (mdl o r)
theorem tkR_zero (o r : Int) (l : List Leaf) : tkR o r l 0 = [] := rfl
theorem tkR_succ {o r : Int} {l : List Leaf} {k : Nat} (h : k < l.length) : tkR o r l (k + 1) = tkR o r l k ++ [mdl o r l[l.length - 1 - k]] := by
 unfold tkR
 rw [List.take_succ_eq_append_getElem (by simpa using h), List.map_append]
 simp
theorem tkR_len {o r : Int} {l : List Leaf} {k : Nat} (h : k ≤ l.length) : (tkR o r l k).length = k := by simp [tkR]; omega
theorem tkR_end {o r : Int} {l : List Leaf} : tkR o r l l.length = l.reverse.map (mdl o r) := by
 unfold tkR; rw [List.take_of_length_le (by simp)]
theorem turnedO_s (b : Bool) (o r : Int) (l : List Leaf) (ho : o = 0 ∨ o = 1) (hr : r = 0 ∨ r = 1) (hf : Fine l) (hl : l.length ≤ 1000000) : Ctr Tryz.prog 107 [.sl b 4 (l.map eL), (.v (.int .i64 o)), (.v (.int .i64 r))] (fun rr => rr = ⟨.row 0, [.own 116 4 ((l.reverse.map (mdl o r)).map eL)]⟩) := by
 refine Ctr.of (rs := [.tmp 6]) Tok false Tryz.func107 rfl rfl rfl rfl (by simp [ofDL]) (fun w0 kp => ?_)
 simp only [↓sx0, sxE, encs, sevalprocAttr]
 repeat ((with_reducible refine Vc.go ?_ fun _ => ?_); (focus (first | omega | (simp only [InK]; omega) | (simp [InK]; done) | (simp [InK]; omega))); simp only [↓sx0, sxE, encs, sevalprocAttr])
 refine LoopW.comp [0, 1, 2, 7, 8] (by simp only [sx2, encs, sxR, sevalprocAttr] <;> (try simp) <;> (try omega)) ?_
 simp only [sx2, sxR, sevalprocAttr]
 refine LoopW.up Tok (fun k : Nat => [(7, .row 0), (8, (.v (.int .i64 ((l.length : Int) - 1 - k))))]) (fun k => []) (fun k => []) (fun k => [.own 116 4 ((tkR o r l k).map eL)]) (fun k => k ≤ l.length) (fun k => l.length - k) (0) (by simp only [sx2, encs, sxR, sevalprocAttr] <;> (try simp [tkR_zero, encs]) <;> (try omega)) ?_ ?_
 ·omega
 rintro k hk
 have htl := tkR_len (o := o) (r := r) hk
 simp only [↓sx0, sxE, encs, sevalprocAttr]
 refine BrW.dec (fun hlt => ?_) (fun hlt => ?_)
 ·have hk2 : k < l.length := by omega
  have hj : l.length - 1 - k < l.length := by omega
  have ej : ((l.length : Int) - 1 - k).toNat = l.length - 1 - k := by omega
  obtain ⟨f1, f2⟩ := hf _ (List.getElem_mem hj)
  have ht1 := tm2 f1 ho
  have ht2 := tm2 f2 hr
  simp only [↓sx0, sxE, encs, sevalprocAttr]
  repeat ((with_reducible refine Vc.go ?_ fun _ => ?_); (focus (first | omega | (simp only [InK]; omega) | (simp [InK]; done) | (simp [InK]; omega))); simp only [↓sx0, sxE, encs, sevalprocAttr])
  refine IxW.map l[l.length - 1 - k] (by omega) (by rw [ej]; exact List.getElem?_eq_getElem hj) ?_
  simp only [↓sx0, sxE, encs, sevalprocAttr]
  repeat ((with_reducible refine Vc.go ?_ fun _ => ?_); (focus (first | omega | (simp only [InK]; omega) | (simp [InK]; done) | (simp [InK]; omega))); simp only [↓sx0, sxE, encs, sevalprocAttr])
  have e5 : (l.length : Int) - 1 - k - 1 = (l.length : Int) - 1 - ((k + 1 : Nat) : Int) := by push_cast; omega
  rw [e5]
  refine ⟨k + 1, StLe.auto (by simp only [sx2, encs, sxR, sevalprocAttr] <;> (try simp [tkR_succ hk2, mdl, encs]) <;> (try omega)), ?_, ?_⟩
  ·omega
  ·omega
 ·simp only [↓sx0, sxE, encs, sevalprocAttr]
  have : k = l.length := by omega
  subst this
  rw [tkR_end]
  exact EndW.r [some 0] (by simp) (by simp only [sx4, sxF, encs, kpLL_map, sxR, sevalprocAttr] <;> simp [kpL, kpD]) (by simp only [sx4, sxF, encs, kpLL_map, sxR, sevalprocAttr] <;> simp [kpL, kpD]) (by simp only [sx4, sxF, encs, kpLL_map, sxR, sevalprocAttr] <;> simp [kpL, kpD]) (by simp only [sx4, sxF, encs, kpLL_map, sxR, sevalprocAttr] <;> simp [kpL, kpD])
theorem turnedF_s (b : Bool) (o r : Int) (l : List Leaf) (ho : o = 0 ∨ o = 1) (hr : r = 0 ∨ r = 1) (hf : Fine l) (hl : l.length ≤ 1000000) : Ctr Tryz.prog 107 [.sl b 4 (l.map eL), (.v (.int .i64 o)), (.v (.int .i64 r))] (fun rr => rr = ⟨.sl true 4 ((l.reverse.map (mdl o r)).map eL), []⟩) := by
 refine Ctr.of (rs := [.tmp 6]) Tok true Tryz.func107 rfl rfl rfl rfl (by simp [ofDL]) (fun w0 kp => ?_)
 simp only [↓sx0, sxE, encs, sevalprocAttr]
 repeat ((with_reducible refine Vc.go ?_ fun _ => ?_); (focus (first | omega | (simp only [InK]; omega) | (simp [InK]; done) | (simp [InK]; omega))); simp only [↓sx0, sxE, encs, sevalprocAttr])
 refine LoopW.comp [0, 1, 2, 7, 8] (by simp only [sx2, encs, sxR, sevalprocAttr] <;> (try simp) <;> (try omega)) ?_
 simp only [sx2, sxR, sevalprocAttr]
 refine LoopW.up Tok (fun k : Nat => [(7, .row 0), (8, (.v (.int .i64 ((l.length : Int) - 1 - k))))]) (fun k => []) (fun k => []) (fun k => [.own 116 4 ((tkR o r l k).map eL)]) (fun k => k ≤ l.length) (fun k => l.length - k) (0) (by simp only [sx2, encs, sxR, sevalprocAttr] <;> (try simp [tkR_zero, encs]) <;> (try omega)) ?_ ?_
 ·omega
 rintro k hk
 have htl := tkR_len (o := o) (r := r) hk
 simp only [↓sx0, sxE, encs, sevalprocAttr]
 refine BrW.dec (fun hlt => ?_) (fun hlt => ?_)
 ·have hk2 : k < l.length := by omega
  have hj : l.length - 1 - k < l.length := by omega
  have ej : ((l.length : Int) - 1 - k).toNat = l.length - 1 - k := by omega
  obtain ⟨f1, f2⟩ := hf _ (List.getElem_mem hj)
  have ht1 := tm2 f1 ho
  have ht2 := tm2 f2 hr
  simp only [↓sx0, sxE, encs, sevalprocAttr]
  repeat ((with_reducible refine Vc.go ?_ fun _ => ?_); (focus (first | omega | (simp only [InK]; omega) | (simp [InK]; done) | (simp [InK]; omega))); simp only [↓sx0, sxE, encs, sevalprocAttr])
  refine IxW.map l[l.length - 1 - k] (by omega) (by rw [ej]; exact List.getElem?_eq_getElem hj) ?_
  simp only [↓sx0, sxE, encs, sevalprocAttr]
  repeat ((with_reducible refine Vc.go ?_ fun _ => ?_); (focus (first | omega | (simp only [InK]; omega) | (simp [InK]; done) | (simp [InK]; omega))); simp only [↓sx0, sxE, encs, sevalprocAttr])
  have e5 : (l.length : Int) - 1 - k - 1 = (l.length : Int) - 1 - ((k + 1 : Nat) : Int) := by push_cast; omega
  rw [e5]
  refine ⟨k + 1, StLe.auto (by simp only [sx2, encs, sxR, sevalprocAttr] <;> (try simp [tkR_succ hk2, mdl, encs]) <;> (try omega)), ?_, ?_⟩
  ·omega
  ·omega
 ·simp only [↓sx0, sxE, encs, sevalprocAttr]
  have : k = l.length := by omega
  subst this
  rw [tkR_end]
  refine EndW.fn ?_ ?_ <;> simp only [sx4, encs, kpLL_map, sxR, sevalprocAttr] <;> (try simp) <;> (try omega)
/-- the places of a pile that is seen with its columns, or its rows, from the other end. -/
def mirG (mc mr : Bool) (cols rows : Nat) (ls : List (List Leaf)) (c r : Nat) : List Leaf := stkAt ls ((if mr then rows - 1 - r else r) * cols + (if mc then cols - 1 - c else c))
theorem mirroredR_s (b : Bool) (cn rn : Nat) (ls : List (List Leaf)) (hn : ls.length = rn * cn) (hc : cn ≤ 1000) (hr : rn ≤ 1000) : Ctr Tryz.prog 84 [.agg [(.v (.int .i64 cn)), (.v (.int .i64 rn)), .sl b 1 (ls.map eK)], (.v (.bool (false))), (.v (.bool (true)))] (fun rr => rr = ⟨.agg [(.v (.int .i64 cn)), (.v (.int .i64 rn)), .row 0], [.own 144 1 ((grid cn rn (mirG false true cn rn ls)).map eK)]⟩) := by
 have hsz : rn * cn ≤ 1000 * 1000 := Nat.mul_le_mul hr hc
 refine Ctr.of (rs := [.cell 6 81]) Tok false Tryz.func84 rfl rfl rfl rfl (by simp [ofDL]) (fun w0 kp => ?_)
 simp only [↓sx0, sxE, encs, sevalprocAttr]
 refine LoopW.comp [1, 2, 3, 6, 7, 8] (by simp only [sx2, encs, sxR, sevalprocAttr] <;> (try simp) <;> (try omega)) ?_
 simp only [sx2, sxR, sevalprocAttr]
 refine LoopW.up Tok (fun q : Nat => [(8, (.v (.int .i64 q)))]) (fun q => [(2, [(.v (.int .i64 cn)), (.v (.int .i64 rn)), .row 0])]) (fun q => []) (fun q => [.own 144 1 ((grid cn q (mirG false true cn rn ls)).map eK)]) (fun q => q ≤ rn) (fun q => rn - q) (0) (by simp only [sx2, encs, sxR, sevalprocAttr] <;> (try simp) <;> (try omega)) ?_ ?_
 ·omega
 rintro q hq1
 simp only [↓sx0, sxE, encs, sevalprocAttr]
 refine BrW.dec (fun hlt => ?_) (fun hlt => ?_)
 ·simp only [↓sx0, sxE, encs, sevalprocAttr]
  have hq2 : q < rn := by omega
  refine LoopW.comp [1, 2, 3, 6, 7, 8, 9] (by simp only [sx2, encs, sxR, sevalprocAttr] <;> (try simp) <;> (try omega)) ?_
  simp only [sx2, sxR, sevalprocAttr]
  refine LoopW.up Tok (fun k : Nat => [(9, (.v (.int .i64 k)))]) (fun k => []) (fun k => [(0, ((grid cn q (mirG false true cn rn ls)) ++ gridRow k (mirG false true cn rn ls) q).map eK)]) (fun k => []) (fun k => k ≤ cn) (fun k => cn - k) (0) (by simp only [sx2, encs, sxR, sevalprocAttr] <;> (try simp) <;> (try omega)) ?_ ?_
  ·omega
  rintro k hk1
  simp only [↓sx0, sxE, encs, sevalprocAttr]
  refine BrW.dec (fun hlt2 => ?_) (fun hlt2 => ?_)
  ·have hk2 : k < cn := by omega
   have hqk := cell_lt hq2 hk2
   have hy : (rn - 1 - q) < rn := by omega
   have hx : k < cn := by omega
   have hxy := cell_lt hy hx
   have ey : ((rn : Int) - 1 - q) * cn = (((rn - 1 - q) * cn : Nat) : Int) := by rw [show ((rn : Int) - 1 - q) = (((rn - 1 - q) : Nat) : Int) by omega]; push_cast; rfl
   have i1 := stkAt_get (ls := ls) (i := (rn - 1 - q) * cn + k) (by omega)
   simp only [↓sx0, sxE, encs, sevalprocAttr]
   repeat ((with_reducible refine Vc.go ?_ fun _ => ?_); (focus (first | omega | (simp only [InK]; omega) | (simp [InK]; done) | (simp [InK]; omega))); simp only [↓sx0, sxE, encs, sevalprocAttr])
   refine DrawW.plan Tok mixed (.q 0 <| .q 1 <| .q 2 <| .q 3 <| .q 4 <| .q 5 <| .q 6 <| .q 7 <| .q 8 <| .q 9 <| .q 10 <| .q 11 <| .e 12 [1] <| .e 13 [] <| .q 14 <| .e 15 [] <| .done) (by kernel_rfl) (by kernel_rfl) ?_
   simp only [↓sx0, sxE, encs, sevalprocAttr]
   repeat ((with_reducible refine Vc.go ?_ fun _ => ?_); (focus (first | omega | (simp only [InK]; omega) | (simp [InK]; done) | (simp [InK]; omega))); simp only [↓sx0, sxE, encs, sevalprocAttr])
   rw [ey]
   repeat ((with_reducible refine Vc.go ?_ fun _ => ?_); (focus (first | omega | (simp only [InK]; omega) | (simp [InK]; done) | (simp [InK]; omega))); simp only [↓sx0, sxE, encs, sevalprocAttr])
   refine IxW.map _ (by omega) (by rw [show ((((rn - 1 - q) * cn : Nat) : Int) + (k : Int)).toNat = (rn - 1 - q) * cn + k by omega]; exact i1) ?_
   simp only [↓sx0, sxE, encs, sevalprocAttr]
   (with_reducible refine Vc.go ?_ fun _ => ?_); focus (first | omega | (simp only [InK]; omega) | (simp [grid_length, gridRow_length, InK]; done) | (simp [grid_length, gridRow_length, InK]; omega))
   simp only [↓sx0, sxE, encs, sevalprocAttr]
   (with_reducible refine Vc.go ?_ fun _ => ?_); focus (first | omega | (simp only [InK]; omega) | (simp [InK]; done) | (simp [InK]; omega))
   simp only [↓sx0, sxE, encs, sevalprocAttr]
   refine ⟨k + 1, StLe.auto (by simp only [sx2, encs, sxR, sevalprocAttr] <;> (try simp [gridRow_succ, mirG, encs]) <;> (try omega)), ?_, ?_⟩
   ·omega
   ·omega
  ·simp only [↓sx0, sxE, encs, sevalprocAttr]
   have : k = cn := by omega
   subst this
   (with_reducible refine Vc.go ?_ fun _ => ?_); focus (first | omega | (simp only [InK]; omega) | (simp [InK]; done) | (simp [InK]; omega))
   simp only [↓sx0, sxE, encs, sevalprocAttr]
   refine ⟨q + 1, StLe.auto (by simp only [sx2, encs, sxR, sevalprocAttr] <;> (try simp [grid_succ, encs]) <;> (try omega)), ?_, ?_⟩
   ·omega
   ·omega
 ·simp only [↓sx0, sxE, encs, sevalprocAttr]
  have : q = rn := by omega
  subst this
  exact EndW.r [some 0] (by simp) (by simp only [sx4, sxF, encs, kpLL_map, sxR, sevalprocAttr] <;> simp [kpL, kpD]) (by simp only [sx4, sxF, encs, kpLL_map, sxR, sevalprocAttr] <;> simp [kpL, kpD]) (by simp only [sx4, sxF, encs, kpLL_map, sxR, sevalprocAttr] <;> simp [kpL, kpD]) (by simp only [sx4, sxF, encs, kpLL_map, sxR, sevalprocAttr] <;> simp [kpL, kpD])
theorem mirroredC_s (b : Bool) (cn rn : Nat) (ls : List (List Leaf)) (hn : ls.length = rn * cn) (hc : cn ≤ 1000) (hr : rn ≤ 1000) : Ctr Tryz.prog 84 [.agg [(.v (.int .i64 cn)), (.v (.int .i64 rn)), .sl b 1 (ls.map eK)], (.v (.bool (true))), (.v (.bool (false)))] (fun rr => rr = ⟨.agg [(.v (.int .i64 cn)), (.v (.int .i64 rn)), .row 0], [.own 144 1 ((grid cn rn (mirG true false cn rn ls)).map eK)]⟩) := by
 have hsz : rn * cn ≤ 1000 * 1000 := Nat.mul_le_mul hr hc
 refine Ctr.of (rs := [.cell 6 81]) Tok false Tryz.func84 rfl rfl rfl rfl (by simp [ofDL]) (fun w0 kp => ?_)
 simp only [↓sx0, sxE, encs, sevalprocAttr]
 refine LoopW.comp [1, 2, 3, 6, 7, 8] (by simp only [sx2, encs, sxR, sevalprocAttr] <;> (try simp) <;> (try omega)) ?_
 simp only [sx2, sxR, sevalprocAttr]
 refine LoopW.up Tok (fun q : Nat => [(8, (.v (.int .i64 q)))]) (fun q => [(2, [(.v (.int .i64 cn)), (.v (.int .i64 rn)), .row 0])]) (fun q => []) (fun q => [.own 144 1 ((grid cn q (mirG true false cn rn ls)).map eK)]) (fun q => q ≤ rn) (fun q => rn - q) (0) (by simp only [sx2, encs, sxR, sevalprocAttr] <;> (try simp) <;> (try omega)) ?_ ?_
 ·omega
 rintro q hq1
 simp only [↓sx0, sxE, encs, sevalprocAttr]
 refine BrW.dec (fun hlt => ?_) (fun hlt => ?_)
 ·simp only [↓sx0, sxE, encs, sevalprocAttr]
  have hq2 : q < rn := by omega
  refine LoopW.comp [1, 2, 3, 6, 7, 8, 9] (by simp only [sx2, encs, sxR, sevalprocAttr] <;> (try simp) <;> (try omega)) ?_
  simp only [sx2, sxR, sevalprocAttr]
  refine LoopW.up Tok (fun k : Nat => [(9, (.v (.int .i64 k)))]) (fun k => []) (fun k => [(0, ((grid cn q (mirG true false cn rn ls)) ++ gridRow k (mirG true false cn rn ls) q).map eK)]) (fun k => []) (fun k => k ≤ cn) (fun k => cn - k) (0) (by simp only [sx2, encs, sxR, sevalprocAttr] <;> (try simp) <;> (try omega)) ?_ ?_
  ·omega
  rintro k hk1
  simp only [↓sx0, sxE, encs, sevalprocAttr]
  refine BrW.dec (fun hlt2 => ?_) (fun hlt2 => ?_)
  ·have hk2 : k < cn := by omega
   have hqk := cell_lt hq2 hk2
   have hy : q < rn := by omega
   have hx : (cn - 1 - k) < cn := by omega
   have hxy := cell_lt hy hx
   have ey : (q : Int) * cn = ((q * cn : Nat) : Int) := by rw [show (q : Int) = ((q : Nat) : Int) by omega]; push_cast; rfl
   have i1 := stkAt_get (ls := ls) (i := q * cn + (cn - 1 - k)) (by omega)
   simp only [↓sx0, sxE, encs, sevalprocAttr]
   repeat ((with_reducible refine Vc.go ?_ fun _ => ?_); (focus (first | omega | (simp only [InK]; omega) | (simp [InK]; done) | (simp [InK]; omega))); simp only [↓sx0, sxE, encs, sevalprocAttr])
   refine DrawW.plan Tok mixed (.q 0 <| .q 1 <| .q 2 <| .q 3 <| .q 4 <| .q 5 <| .q 6 <| .q 7 <| .q 8 <| .q 9 <| .q 10 <| .q 11 <| .e 12 [1] <| .e 13 [] <| .q 14 <| .e 15 [] <| .done) (by kernel_rfl) (by kernel_rfl) ?_
   simp only [↓sx0, sxE, encs, sevalprocAttr]
   repeat ((with_reducible refine Vc.go ?_ fun _ => ?_); (focus (first | omega | (simp only [InK]; omega) | (simp [InK]; done) | (simp [InK]; omega))); simp only [↓sx0, sxE, encs, sevalprocAttr])
   rw [ey]
   repeat ((with_reducible refine Vc.go ?_ fun _ => ?_); (focus (first | omega | (simp only [InK]; omega) | (simp [InK]; done) | (simp [InK]; omega))); simp only [↓sx0, sxE, encs, sevalprocAttr])
   refine IxW.map _ (by omega) (by rw [show (((q * cn : Nat) : Int) + ((cn : Int) - 1 - k)).toNat = q * cn + (cn - 1 - k) by omega]; exact i1) ?_
   simp only [↓sx0, sxE, encs, sevalprocAttr]
   (with_reducible refine Vc.go ?_ fun _ => ?_); focus (first | omega | (simp only [InK]; omega) | (simp [grid_length, gridRow_length, InK]; done) | (simp [grid_length, gridRow_length, InK]; omega))
   simp only [↓sx0, sxE, encs, sevalprocAttr]
   (with_reducible refine Vc.go ?_ fun _ => ?_); focus (first | omega | (simp only [InK]; omega) | (simp [InK]; done) | (simp [InK]; omega))
   simp only [↓sx0, sxE, encs, sevalprocAttr]
   refine ⟨k + 1, StLe.auto (by simp only [sx2, encs, sxR, sevalprocAttr] <;> (try simp [gridRow_succ, mirG, encs]) <;> (try omega)), ?_, ?_⟩
   ·omega
   ·omega
  ·simp only [↓sx0, sxE, encs, sevalprocAttr]
   have : k = cn := by omega
   subst this
   (with_reducible refine Vc.go ?_ fun _ => ?_); focus (first | omega | (simp only [InK]; omega) | (simp [InK]; done) | (simp [InK]; omega))
   simp only [↓sx0, sxE, encs, sevalprocAttr]
   refine ⟨q + 1, StLe.auto (by simp only [sx2, encs, sxR, sevalprocAttr] <;> (try simp [grid_succ, encs]) <;> (try omega)), ?_, ?_⟩
   ·omega
   ·omega
 ·simp only [↓sx0, sxE, encs, sevalprocAttr]
  have : q = rn := by omega
  subst this
  exact EndW.r [some 0] (by simp) (by simp only [sx4, sxF, encs, kpLL_map, sxR, sevalprocAttr] <;> simp [kpL, kpD]) (by simp only [sx4, sxF, encs, kpLL_map, sxR, sevalprocAttr] <;> simp [kpL, kpD]) (by simp only [sx4, sxF, encs, kpLL_map, sxR, sevalprocAttr] <;> simp [kpL, kpD]) (by simp only [sx4, sxF, encs, kpLL_map, sxR, sevalprocAttr] <;> simp [kpL, kpD])
theorem mirroredCR_s (b : Bool) (cn rn : Nat) (ls : List (List Leaf)) (hn : ls.length = rn * cn) (hc : cn ≤ 1000) (hr : rn ≤ 1000) : Ctr Tryz.prog 84 [.agg [(.v (.int .i64 cn)), (.v (.int .i64 rn)), .sl b 1 (ls.map eK)], (.v (.bool (true))), (.v (.bool (true)))] (fun rr => rr = ⟨.agg [(.v (.int .i64 cn)), (.v (.int .i64 rn)), .row 0], [.own 144 1 ((grid cn rn (mirG true true cn rn ls)).map eK)]⟩) := by
 have hsz : rn * cn ≤ 1000 * 1000 := Nat.mul_le_mul hr hc
 refine Ctr.of (rs := [.cell 6 81]) Tok false Tryz.func84 rfl rfl rfl rfl (by simp [ofDL]) (fun w0 kp => ?_)
 simp only [↓sx0, sxE, encs, sevalprocAttr]
 refine LoopW.comp [1, 2, 3, 6, 7, 8] (by simp only [sx2, encs, sxR, sevalprocAttr] <;> (try simp) <;> (try omega)) ?_
 simp only [sx2, sxR, sevalprocAttr]
 refine LoopW.up Tok (fun q : Nat => [(8, (.v (.int .i64 q)))]) (fun q => [(2, [(.v (.int .i64 cn)), (.v (.int .i64 rn)), .row 0])]) (fun q => []) (fun q => [.own 144 1 ((grid cn q (mirG true true cn rn ls)).map eK)]) (fun q => q ≤ rn) (fun q => rn - q) (0) (by simp only [sx2, encs, sxR, sevalprocAttr] <;> (try simp) <;> (try omega)) ?_ ?_
 ·omega
 rintro q hq1
 simp only [↓sx0, sxE, encs, sevalprocAttr]
 refine BrW.dec (fun hlt => ?_) (fun hlt => ?_)
 ·simp only [↓sx0, sxE, encs, sevalprocAttr]
  have hq2 : q < rn := by omega
  refine LoopW.comp [1, 2, 3, 6, 7, 8, 9] (by simp only [sx2, encs, sxR, sevalprocAttr] <;> (try simp) <;> (try omega)) ?_
  simp only [sx2, sxR, sevalprocAttr]
  refine LoopW.up Tok (fun k : Nat => [(9, (.v (.int .i64 k)))]) (fun k => []) (fun k => [(0, ((grid cn q (mirG true true cn rn ls)) ++ gridRow k (mirG true true cn rn ls) q).map eK)]) (fun k => []) (fun k => k ≤ cn) (fun k => cn - k) (0) (by simp only [sx2, encs, sxR, sevalprocAttr] <;> (try simp) <;> (try omega)) ?_ ?_
  ·omega
  rintro k hk1
  simp only [↓sx0, sxE, encs, sevalprocAttr]
  refine BrW.dec (fun hlt2 => ?_) (fun hlt2 => ?_)
  ·have hk2 : k < cn := by omega
   have hqk := cell_lt hq2 hk2
   have hy : (rn - 1 - q) < rn := by omega
   have hx : (cn - 1 - k) < cn := by omega
   have hxy := cell_lt hy hx
   have ey : ((rn : Int) - 1 - q) * cn = (((rn - 1 - q) * cn : Nat) : Int) := by rw [show ((rn : Int) - 1 - q) = (((rn - 1 - q) : Nat) : Int) by omega]; push_cast; rfl
   have i1 := stkAt_get (ls := ls) (i := (rn - 1 - q) * cn + (cn - 1 - k)) (by omega)
   simp only [↓sx0, sxE, encs, sevalprocAttr]
   repeat ((with_reducible refine Vc.go ?_ fun _ => ?_); (focus (first | omega | (simp only [InK]; omega) | (simp [InK]; done) | (simp [InK]; omega))); simp only [↓sx0, sxE, encs, sevalprocAttr])
   refine DrawW.plan Tok mixed (.q 0 <| .q 1 <| .q 2 <| .q 3 <| .q 4 <| .q 5 <| .q 6 <| .q 7 <| .q 8 <| .q 9 <| .q 10 <| .q 11 <| .e 12 [1] <| .e 13 [] <| .q 14 <| .e 15 [] <| .done) (by kernel_rfl) (by kernel_rfl) ?_
   simp only [↓sx0, sxE, encs, sevalprocAttr]
   repeat ((with_reducible refine Vc.go ?_ fun _ => ?_); (focus (first | omega | (simp only [InK]; omega) | (simp [InK]; done) | (simp [InK]; omega))); simp only [↓sx0, sxE, encs, sevalprocAttr])
   rw [ey]
   repeat ((with_reducible refine Vc.go ?_ fun _ => ?_); (focus (first | omega | (simp only [InK]; omega) | (simp [InK]; done) | (simp [InK]; omega))); simp only [↓sx0, sxE, encs, sevalprocAttr])
   refine IxW.map _ (by omega) (by rw [show ((((rn - 1 - q) * cn : Nat) : Int) + ((cn : Int) - 1 - k)).toNat = (rn - 1 - q) * cn + (cn - 1 - k) by omega]; exact i1) ?_
   simp only [↓sx0, sxE, encs, sevalprocAttr]
   (with_reducible refine Vc.go ?_ fun _ => ?_); focus (first | omega | (simp only [InK]; omega) | (simp [grid_length, gridRow_length, InK]; done) | (simp [grid_length, gridRow_length, InK]; omega))
   simp only [↓sx0, sxE, encs, sevalprocAttr]
   (with_reducible refine Vc.go ?_ fun _ => ?_); focus (first | omega | (simp only [InK]; omega) | (simp [InK]; done) | (simp [InK]; omega))
   simp only [↓sx0, sxE, encs, sevalprocAttr]
   refine ⟨k + 1, StLe.auto (by simp only [sx2, encs, sxR, sevalprocAttr] <;> (try simp [gridRow_succ, mirG, encs]) <;> (try omega)), ?_, ?_⟩
   ·omega
   ·omega
  ·simp only [↓sx0, sxE, encs, sevalprocAttr]
   have : k = cn := by omega
   subst this
   (with_reducible refine Vc.go ?_ fun _ => ?_); focus (first | omega | (simp only [InK]; omega) | (simp [InK]; done) | (simp [InK]; omega))
   simp only [↓sx0, sxE, encs, sevalprocAttr]
   refine ⟨q + 1, StLe.auto (by simp only [sx2, encs, sxR, sevalprocAttr] <;> (try simp [grid_succ, encs]) <;> (try omega)), ?_, ?_⟩
   ·omega
   ·omega
 ·simp only [↓sx0, sxE, encs, sevalprocAttr]
  have : q = rn := by omega
  subst this
  exact EndW.r [some 0] (by simp) (by simp only [sx4, sxF, encs, kpLL_map, sxR, sevalprocAttr] <;> simp [kpL, kpD]) (by simp only [sx4, sxF, encs, kpLL_map, sxR, sevalprocAttr] <;> simp [kpL, kpD]) (by simp only [sx4, sxF, encs, kpLL_map, sxR, sevalprocAttr] <;> simp [kpL, kpD]) (by simp only [sx4, sxF, encs, kpLL_map, sxR, sevalprocAttr] <;> simp [kpL, kpD])
end Go.Proofs.YteajjcbinnjgaaaGreatDoor
