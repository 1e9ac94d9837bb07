/-
  Chapter 6, walks: what a pile reads.
-/
import Derived.Test.YtfpkpokkgbobmaaVW35
import Derived.Test.YtfpkpokkgbobmaaVW23
namespace Go.Proofs.Ytfpkpokkgbobmaa
open Go Go.Vx
set_option linter.unusedSimpArgs false
set_option maxRecDepth 20000
def xr (a b : Int) : Int := if a = b then 0 else 1
theorem xr_tm {a b : Int} (ha : 0 ≤ a ∧ a ≤ 1) (hb : 0 ≤ b ∧ b ≤ 1) : (a + b).tmod 2 = if a = b then 0 else 1 := by
  have : (a + b).tmod 2 = (a + b) % 2 := Int.tmod_eq_emod_of_nonneg (by omega)
  split <;> omega
def rdC (cn : Nat) (cells : List Cell) (x : Leaf) : Cell := cells.getD (x.row.toNat * cn + x.col.toNat) zC
def rdP (cn : Nat) (cells : List Cell) (x : Leaf) : List Page :=
  if x.over = 1 then [⟨(rdC cn cells x).back, xr (rdC cn cells x).bturn x.round⟩, ⟨(rdC cn cells x).front, xr (rdC cn cells x).fturn x.round⟩]
  else [⟨(rdC cn cells x).front, xr (rdC cn cells x).fturn x.round⟩, ⟨(rdC cn cells x).back, xr (rdC cn cells x).bturn x.round⟩]
/-- what the first leaves read. -/
def rdK (cn : Nat) (cells : List Cell) (s : List Leaf) (k : Nat) : List Page := (s.take k).flatMap (rdP cn cells)
theorem rdK_zero (cn : Nat) (cells : List Cell) (s : List Leaf) : rdK cn cells s 0 = [] := rfl
theorem rdK_succ {cn : Nat} {cells : List Cell} {s : List Leaf} {k : Nat} (h : k < s.length) : rdK cn cells s (k + 1) = rdK cn cells s k ++ rdP cn cells s[k] := by
  unfold rdK; rw [List.take_succ_eq_append_getElem h, List.flatMap_append]; simp
theorem rdP_len (cn : Nat) (cells : List Cell) (x : Leaf) : (rdP cn cells x).length = 2 := by unfold rdP; split <;> rfl
theorem rdL_len (cn : Nat) (cells : List Cell) : ∀ s : List Leaf, (s.flatMap (rdP cn cells)).length = 2 * s.length
  | [] => rfl
  | x :: s => by rw [List.flatMap_cons, List.length_append, rdP_len, rdL_len cn cells s, List.length_cons]; omega
theorem rdK_len {cn : Nat} {cells : List Cell} {s : List Leaf} {k : Nat} (h : k ≤ s.length) : (rdK cn cells s k).length = 2 * k := by
  unfold rdK; rw [rdL_len, List.length_take]; omega
theorem rdK_end (cn : Nat) (cells : List Cell) (s : List Leaf) : rdK cn cells s s.length = s.flatMap (rdP cn cells) := by
  unfold rdK; rw [List.take_length]
/-- leaves of a sheet, with turns. -/
def LfOk (cn rn : Nat) (x : Leaf) : Prop := ((0 ≤ x.over ∧ x.over ≤ 1) ∧ 0 ≤ x.round ∧ x.round ≤ 1) ∧ (0 ≤ x.col ∧ x.col < cn) ∧ 0 ≤ x.row ∧ x.row < rn
def TnOk (x : Cell) : Prop := (0 ≤ x.fturn ∧ x.fturn ≤ 1) ∧ 0 ≤ x.bturn ∧ x.bturn ≤ 1
theorem rd_get {cn rn : Nat} {cells : List Cell} (hl : cells.length = rn * cn) {x : Leaf} (h : LfOk cn rn x) (ht : ∀ y ∈ cells, TnOk y) : (0 ≤ x.row * (cn : Int) ∧ x.row * (cn : Int) + x.col < (rn * cn : Nat)) ∧ (0 ≤ x.row * (cn : Int) + x.col ∧ cells[(x.row * (cn : Int) + x.col).toNat]? = some (rdC cn cells x)) ∧ TnOk (rdC cn cells x) := by
  obtain ⟨-, ⟨c1, c2⟩, r1, r2⟩ := h
  have hq : x.row.toNat < rn := by omega
  have hk : x.col.toNat < cn := by omega
  have e : x.row * (cn : Int) + x.col = ((x.row.toNat * cn + x.col.toNat : Nat) : Int) := by
    push_cast; rw [Int.toNat_of_nonneg r1, Int.toNat_of_nonneg c1]
  have i := twGet zC hl hq hk e
  refine ⟨⟨Int.mul_nonneg r1 (by omega), ?_⟩, i, ht _ (List.mem_of_getElem? i.2)⟩
  rw [e]
  exact_mod_cast cell_lt hq hk
set_option maxHeartbeats 2000000 in
theorem read_s (b b' : Bool) (cn rn : Nat) (cells : List Cell) (s : List Leaf) (hc : cn ≤ 8) (hr : rn ≤ 8) (hl : cells.length = rn * cn) (hs : ∀ x ∈ s, LfOk cn rn x) (ht : ∀ y ∈ cells, TnOk y) (hsl : s.length ≤ 4096) : Ctr Try.prog 81 [.agg [(.v (.int .i64 cn)), (.v (.int .i64 rn)), .sl b 4 (cells.map eC)], .sl b' 4 (s.map eL)] (fun rr => rr = ⟨.sl true 2 ((s.flatMap (rdP cn cells)).map eP), []⟩) := by
  have hrc : rn * cn ≤ 8 * 8 := Nat.mul_le_mul hr hc
  refine Ctr.of (rs := [.tmp 4]) Tok true Try.func81 rfl rfl rfl rfl (by simp [ofDL]) (fun w0 kp => ?_)
  simp only [↓sxD, ↓sxP0, sxP1, sxF, sxA, sxS, sxK, encs, tys, sxN, sevalprocAttr, ne_eq, decide_true, decide_false]
  refine LoopW.comp [2, 5, 11, 12, 13] (by simp only [sxS, sxL, sxF, encs, sxN, sevalprocAttr, ne_eq, decide_true, decide_false] <;> (try simp) <;> (try omega)) ?_
  simp only [sxS, sxF, sxN, sevalprocAttr, ne_eq, decide_true, decide_false]
  refine LoopW.up Tok (fun k : Nat => [(5, .row 0), (13, (.v (.int .i64 k)))]) (fun k => []) (fun k => []) (fun k => [.own 132 2 ((rdK cn cells s k).map eP)]) (fun k => k ≤ s.length) (fun k => s.length - k) (0) (by simp only [sxS, sxL, sxF, encs, sxN, sevalprocAttr, ne_eq, decide_true, decide_false] <;> (try simp [rdK_zero, encs]) <;> (try omega)) ?_ ?_
  · omega
  rintro k hk
  have hkl := rdK_len (cn := cn) (cells := cells) hk
  simp only [↓sxD, ↓sxP0, sxP1, sxF, sxA, sxS, sxK, encs, tys, sxN, sevalprocAttr, ne_eq, decide_true, decide_false]
  refine BrW.dec (fun hlt => ?_) (fun hlt => ?_)
  · have hk2 : k < s.length := by omega
    have hlf := hs _ (List.getElem_mem hk2)
    obtain ⟨⟨j1, j2⟩, i1, t1, t2⟩ := rd_get hl hlf ht
    obtain ⟨⟨f1, f2⟩, ⟨c1, c2⟩, r1, r2⟩ := hlf
    have hsu := rdK_succ (cn := cn) (cells := cells) hk2
    simp only [↓sxD, ↓sxP0, sxP1, sxF, sxA, sxS, sxK, encs, tys, sxN, sevalprocAttr, ne_eq, decide_true, decide_false]
    refine IxW.nat hk2 ?_
    simp only [↓sxD, ↓sxP0, sxP1, sxF, sxA, sxS, sxK, encs, tys, sxN, sevalprocAttr, ne_eq, decide_true, decide_false]
    repeat ((with_reducible refine Vc.go ?_ fun _ => ?_); (focus (first | omega | (simp only [InK]; omega) | (simp [InK]; done) | (simp [InK]; omega))); simp only [↓sxD, ↓sxP0, sxP1, sxF, sxA, sxS, sxK, encs, tys, sxN, sevalprocAttr, ne_eq, decide_true, decide_false])
    refine IxW.map _ i1.1 i1.2 ?_
    simp only [↓sxD, ↓sxP0, sxP1, sxF, sxA, sxS, sxK, encs, tys, sxN, sevalprocAttr, ne_eq, decide_true, decide_false]
    refine DrawW.plan Tok mixed (.q 0 <| .q 1 <| .q 2 <| .q 3 <| .q 4 <| .q 5 <| .q 6 <| .q 7 <| .q 8 <| .q 9 <| .q 10 <| .q 11 <| .q 12 <| .q 13 <| .q 14 <| .q 15 <| .e2 16 [1, 3, 5, 9, 11, 13] (.e 17 [1, 3, 5, 9, 11, 13] <| .e 18 [9, 11, 13] <| .e 19 [] <| .done) 17 [1, 3, 5, 9, 11, 13] (.e 16 [1, 3, 5, 9, 11, 13] <| .e 18 [9, 11, 13] <| .e 19 [] <| .done)) (by kernel_rfl) (by kernel_rfl) ?_
    simp only [↓sxD, ↓sxP0, sxP1, sxF, sxA, sxS, sxK, encs, tys, sxN, sevalprocAttr, ne_eq, decide_true, decide_false]
    repeat ((with_reducible refine Vc.go ?_ fun _ => ?_); (focus (first | omega | (simp only [InK]; omega) | (simp [InK]; done) | (simp [InK]; omega))); simp only [↓sxD, ↓sxP0, sxP1, sxF, sxA, sxS, sxK, encs, tys, sxN, sevalprocAttr, ne_eq, decide_true, decide_false])
    refine ⟨?_, ?_⟩
    all_goals
      refine BrW.dec (fun ho => ?_) (fun ho => ?_)
      · have hPt : rdP cn cells s[k] = [⟨(rdC cn cells s[k]).back, if (rdC cn cells s[k]).bturn = s[k].round then 0 else 1⟩, ⟨(rdC cn cells s[k]).front, if (rdC cn cells s[k]).fturn = s[k].round then 0 else 1⟩] := by unfold rdP; rw [if_pos ho]; rfl
        simp only [↓sxD, ↓sxP0, sxP1, sxF, sxA, sxS, sxK, encs, tys, sxN, sevalprocAttr, ne_eq, decide_true, decide_false]
        repeat ((with_reducible refine Vc.go ?_ fun _ => ?_); (focus (first | omega | (simp only [InK]; omega) | (simp [hkl, InK]; done) | (simp [hkl, InK]; omega))); simp only [↓sxD, ↓sxP0, sxP1, sxF, sxA, sxS, sxK, encs, tys, sxN, sevalprocAttr, ne_eq, decide_true, decide_false])
        refine ⟨k + 1, StLe.auto (by simp only [sxS, sxL, sxF, encs, sxN, sevalprocAttr, ne_eq, decide_true, decide_false] <;> (try simp [hsu, hPt, encs]) <;> (try omega)), ?_, ?_⟩
        · omega
        · omega
      · have hPt : rdP cn cells s[k] = [⟨(rdC cn cells s[k]).front, if (rdC cn cells s[k]).fturn = s[k].round then 0 else 1⟩, ⟨(rdC cn cells s[k]).back, if (rdC cn cells s[k]).bturn = s[k].round then 0 else 1⟩] := by unfold rdP; rw [if_neg ho]; rfl
        simp only [↓sxD, ↓sxP0, sxP1, sxF, sxA, sxS, sxK, encs, tys, sxN, sevalprocAttr, ne_eq, decide_true, decide_false]
        repeat ((with_reducible refine Vc.go ?_ fun _ => ?_); (focus (first | omega | (simp only [InK]; omega) | (simp [hkl, InK]; done) | (simp [hkl, InK]; omega))); simp only [↓sxD, ↓sxP0, sxP1, sxF, sxA, sxS, sxK, encs, tys, sxN, sevalprocAttr, ne_eq, decide_true, decide_false])
        refine ⟨k + 1, StLe.auto (by simp only [sxS, sxL, sxF, encs, sxN, sevalprocAttr, ne_eq, decide_true, decide_false] <;> (try simp [hsu, hPt, encs]) <;> (try omega)), ?_, ?_⟩
        · omega
        · omega
  · simp only [↓sxD, ↓sxP0, sxP1, sxF, sxA, sxS, sxK, encs, tys, sxN, sevalprocAttr, ne_eq, decide_true, decide_false]
    have : k = s.length := by omega
    subst this
    rw [rdK_end]
    exact EndW.fn (by simp only [sxL, encs, kpLL_map, sxN, sevalprocAttr, ne_eq, decide_true, decide_false] <;> (try simp) <;> (try omega)) (by simp only [sxL, encs, kpLL_map, sxN, sevalprocAttr, ne_eq, decide_true, decide_false] <;> (try simp) <;> (try omega))
set_option maxHeartbeats 2000000 in
theorem readPile_s (b b' : Bool) (cn rn : Nat) (cells : List Cell) (s : List Leaf) (hc : cn ≤ 8) (hr : rn ≤ 8) (hl : cells.length = rn * cn) (hs : ∀ x ∈ s, LfOk cn rn x) (ht : ∀ y ∈ cells, TnOk y) (hsl : s.length ≤ 4096) : Ctr Try.prog 57 [.agg [(.v (.int .i64 cn)), (.v (.int .i64 rn)), .sl b 4 (cells.map eC)], .sl b' 4 (s.map eL)] (fun rr => rr = ⟨.sl true 2 ((s.flatMap (rdP cn cells)).map eP), []⟩) := by
  have hrc : rn * cn ≤ 8 * 8 := Nat.mul_le_mul hr hc
  refine Ctr.of (rs := [.tmp 4]) Tok true Try.func57 rfl rfl rfl rfl (by simp [ofDL]) (fun w0 kp => ?_)
  simp only [↓sxD, ↓sxP0, sxP1, sxF, sxA, sxS, sxK, encs, tys, sxN, sevalprocAttr, ne_eq, decide_true, decide_false]
  refine LoopW.comp [1, 2, 5, 6] (by simp only [sxS, sxL, sxF, encs, sxN, sevalprocAttr, ne_eq, decide_true, decide_false] <;> (try simp) <;> (try omega)) ?_
  simp only [sxS, sxF, sxN, sevalprocAttr, ne_eq, decide_true, decide_false]
  refine LoopW.up Tok (fun k : Nat => [(5, .row 0), (6, (.v (.int .i64 k)))]) (fun k => []) (fun k => []) (fun k => [.own 132 2 ((rdK cn cells s k).map eP)]) (fun k => k ≤ s.length) (fun k => s.length - k) (0) (by simp only [sxS, sxL, sxF, encs, sxN, sevalprocAttr, ne_eq, decide_true, decide_false] <;> (try simp [rdK_zero, encs]) <;> (try omega)) ?_ ?_
  · omega
  rintro k hk
  have hkl := rdK_len (cn := cn) (cells := cells) hk
  simp only [↓sxD, ↓sxP0, sxP1, sxF, sxA, sxS, sxK, encs, tys, sxN, sevalprocAttr, ne_eq, decide_true, decide_false]
  refine BrW.dec (fun hlt => ?_) (fun hlt => ?_)
  · have hk2 : k < s.length := by omega
    have hlf := hs _ (List.getElem_mem hk2)
    obtain ⟨⟨j1, j2⟩, i1, t1, t2⟩ := rd_get hl hlf ht
    obtain ⟨⟨f1, f2⟩, ⟨c1, c2⟩, r1, r2⟩ := hlf
    have hsu := rdK_succ (cn := cn) (cells := cells) hk2
    have x1 := xr_tm t1 f2
    have x2 := xr_tm t2 f2
    have encs := And.intro encs (And.intro x1 x2)
    simp only [↓sxD, ↓sxP0, sxP1, sxF, sxA, sxS, sxK, encs, tys, sxN, sevalprocAttr, ne_eq, decide_true, decide_false]
    refine DrawW.plan Tok mixed (.q 0 <| .q 1 <| .q 2 <| .q 3 <| .q 4 <| .q 5 <| .q 6 <| .q 7 <| .q 8 <| .q 9 <| .q 10 <| .q 11 <| .q 12 <| .q 13 <| .q 14 <| .q 15 <| .q 16 <| .q 17 <| .e 18 [1, 6, 8, 14, 17] <| .e 19 [] <| .done) (by kernel_rfl) (by kernel_rfl) ?_
    simp only [↓sxD, ↓sxP0, sxP1, sxF, sxA, sxS, sxK, encs, tys, sxN, sevalprocAttr, ne_eq, decide_true, decide_false]
    repeat ((with_reducible refine Vc.go ?_ fun _ => ?_); (focus (first | omega | (simp only [InK]; omega) | (simp [InK]; done) | (simp [InK]; omega))); simp only [↓sxD, ↓sxP0, sxP1, sxF, sxA, sxS, sxK, encs, tys, sxN, sevalprocAttr, ne_eq, decide_true, decide_false])
    refine IxW.nat hk2 ?_
    simp only [↓sxD, ↓sxP0, sxP1, sxF, sxA, sxS, sxK, encs, tys, sxN, sevalprocAttr, ne_eq, decide_true, decide_false]
    repeat ((with_reducible refine Vc.go ?_ fun _ => ?_); (focus (first | omega | (simp only [InK]; omega) | (simp [InK]; done) | (simp [InK]; omega))); simp only [↓sxD, ↓sxP0, sxP1, sxF, sxA, sxS, sxK, encs, tys, sxN, sevalprocAttr, ne_eq, decide_true, decide_false])
    refine IxW.nat hk2 ?_
    simp only [↓sxD, ↓sxP0, sxP1, sxF, sxA, sxS, sxK, encs, tys, sxN, sevalprocAttr, ne_eq, decide_true, decide_false]
    repeat ((with_reducible refine Vc.go ?_ fun _ => ?_); (focus (first | omega | (simp only [InK]; omega) | (simp [InK]; done) | (simp [InK]; omega))); simp only [↓sxD, ↓sxP0, sxP1, sxF, sxA, sxS, sxK, encs, tys, sxN, sevalprocAttr, ne_eq, decide_true, decide_false])
    refine IxW.map _ i1.1 i1.2 ?_
    simp only [↓sxD, ↓sxP0, sxP1, sxF, sxA, sxS, sxK, encs, tys, sxN, sevalprocAttr, ne_eq, decide_true, decide_false]
    repeat ((with_reducible refine Vc.go ?_ fun _ => ?_); (focus (first | omega | (simp only [InK]; omega) | (simp [InK]; done) | (simp [InK]; omega))); simp only [↓sxD, ↓sxP0, sxP1, sxF, sxA, sxS, sxK, encs, tys, sxN, sevalprocAttr, ne_eq, decide_true, decide_false])
    refine DrawW.plan Tok mixed (.q 0 <| .q 1 <| .q 2 <| .q 3 <| .q 4 <| .q 5 <| .q 6 <| .q 7 <| .q 8 <| .q 9 <| .q 10 <| .q 11 <| .e 12 [1, 3, 8] <| .e 13 [] <| .done) (by kernel_rfl) (by kernel_rfl) ?_
    simp only [↓sxD, ↓sxP0, sxP1, sxF, sxA, sxS, sxK, encs, tys, sxN, sevalprocAttr, ne_eq, decide_true, decide_false]
    repeat ((with_reducible refine Vc.go ?_ fun _ => ?_); (focus (first | omega | (simp only [InK]; omega) | (simp [InK]; done) | (simp [InK]; omega))); simp only [↓sxD, ↓sxP0, sxP1, sxF, sxA, sxS, sxK, encs, tys, sxN, sevalprocAttr, ne_eq, decide_true, decide_false])
    refine IxW.nat hk2 ?_
    simp only [↓sxD, ↓sxP0, sxP1, sxF, sxA, sxS, sxK, encs, tys, sxN, sevalprocAttr, ne_eq, decide_true, decide_false]
    repeat ((with_reducible refine Vc.go ?_ fun _ => ?_); (focus (first | omega | (simp only [InK]; omega) | (simp [InK]; done) | (simp [InK]; omega))); simp only [↓sxD, ↓sxP0, sxP1, sxF, sxA, sxS, sxK, encs, tys, sxN, sevalprocAttr, ne_eq, decide_true, decide_false])
    refine DrawW.plan Tok mixed (.q 0 <| .q 1 <| .q 2 <| .q 3 <| .q 4 <| .q 5 <| .q 6 <| .q 7 <| .q 8 <| .q 9 <| .q 10 <| .q 11 <| .e 12 [1, 3, 8] <| .e 13 [] <| .done) (by kernel_rfl) (by kernel_rfl) ?_
    simp only [↓sxD, ↓sxP0, sxP1, sxF, sxA, sxS, sxK, encs, tys, sxN, sevalprocAttr, ne_eq, decide_true, decide_false]
    repeat ((with_reducible refine Vc.go ?_ fun _ => ?_); (focus (first | omega | (simp only [InK]; omega) | (simp [InK]; done) | (simp [InK]; omega))); simp only [↓sxD, ↓sxP0, sxP1, sxF, sxA, sxS, sxK, encs, tys, sxN, sevalprocAttr, ne_eq, decide_true, decide_false])
    refine IxW.nat hk2 ?_
    simp only [↓sxD, ↓sxP0, sxP1, sxF, sxA, sxS, sxK, encs, tys, sxN, sevalprocAttr, ne_eq, decide_true, decide_false]
    repeat ((with_reducible refine Vc.go ?_ fun _ => ?_); (focus (first | omega | (simp only [InK]; omega) | (simp [InK]; done) | (simp [InK]; omega))); simp only [↓sxD, ↓sxP0, sxP1, sxF, sxA, sxS, sxK, encs, tys, sxN, sevalprocAttr, ne_eq, decide_true, decide_false])
    refine IxW.nat hk2 ?_
    simp only [↓sxD, ↓sxP0, sxP1, sxF, sxA, sxS, sxK, encs, tys, sxN, sevalprocAttr, ne_eq, decide_true, decide_false]
    refine BrW.dec (fun ho => ?_) (fun ho => ?_)
    · have hPt : rdP cn cells s[k] = [⟨(rdC cn cells s[k]).back, if (rdC cn cells s[k]).bturn = s[k].round then 0 else 1⟩, ⟨(rdC cn cells s[k]).front, if (rdC cn cells s[k]).fturn = s[k].round then 0 else 1⟩] := by unfold rdP; rw [if_pos ho]; rfl
      simp only [↓sxD, ↓sxP0, sxP1, sxF, sxA, sxS, sxK, encs, tys, sxN, sevalprocAttr, ne_eq, decide_true, decide_false]
      repeat ((with_reducible refine Vc.go ?_ fun _ => ?_); (focus (first | omega | (simp only [InK]; omega) | (simp [hkl, InK]; done) | (simp [hkl, InK]; omega))); simp only [↓sxD, ↓sxP0, sxP1, sxF, sxA, sxS, sxK, encs, tys, sxN, sevalprocAttr, ne_eq, decide_true, decide_false])
      refine ⟨k + 1, StLe.auto (by simp only [sxS, sxL, sxF, encs, sxN, sevalprocAttr, ne_eq, decide_true, decide_false] <;> (try simp [hsu, hPt, encs]) <;> (try omega)), ?_, ?_⟩
      · omega
      · omega
    · have hPt : rdP cn cells s[k] = [⟨(rdC cn cells s[k]).front, if (rdC cn cells s[k]).fturn = s[k].round then 0 else 1⟩, ⟨(rdC cn cells s[k]).back, if (rdC cn cells s[k]).bturn = s[k].round then 0 else 1⟩] := by unfold rdP; rw [if_neg ho]; rfl
      simp only [↓sxD, ↓sxP0, sxP1, sxF, sxA, sxS, sxK, encs, tys, sxN, sevalprocAttr, ne_eq, decide_true, decide_false]
      repeat ((with_reducible refine Vc.go ?_ fun _ => ?_); (focus (first | omega | (simp only [InK]; omega) | (simp [hkl, InK]; done) | (simp [hkl, InK]; omega))); simp only [↓sxD, ↓sxP0, sxP1, sxF, sxA, sxS, sxK, encs, tys, sxN, sevalprocAttr, ne_eq, decide_true, decide_false])
      refine ⟨k + 1, StLe.auto (by simp only [sxS, sxL, sxF, encs, sxN, sevalprocAttr, ne_eq, decide_true, decide_false] <;> (try simp [hsu, hPt, encs]) <;> (try omega)), ?_, ?_⟩
      · omega
      · omega
  · simp only [↓sxD, ↓sxP0, sxP1, sxF, sxA, sxS, sxK, encs, tys, sxN, sevalprocAttr, ne_eq, decide_true, decide_false]
    have : k = s.length := by omega
    subst this
    rw [rdK_end]
    exact EndW.fn (by simp only [sxL, encs, kpLL_map, sxN, sevalprocAttr, ne_eq, decide_true, decide_false] <;> (try simp) <;> (try omega)) (by simp only [sxL, encs, kpLL_map, sxN, sevalprocAttr, ne_eq, decide_true, decide_false] <;> (try simp) <;> (try omega))
end Go.Proofs.Ytfpkpokkgbobmaa
