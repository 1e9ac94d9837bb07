/-
  Chapter 6, walks: piles laid over, and folds.
-/
import Derived.Test.YtfpkpokkgbobmaaVW5
namespace Go.Proofs.Ytfpkpokkgbobmaa
open Go Go.Vx
set_option linter.unusedSimpArgs false
set_option maxRecDepth 20000
def capP (b back rows : Bool) (first side cols rws : Int) (ls : List (List Leaf)) : List D :=
  [.pt false [.v (.bool back)], .pt false [.v (.int .i64 first)], .pt false [.clo 114 (capG b back rows side cols rws ls)], .pt false [.v (.int .i64 side)], .pt false [.v (.bool rows)]]
theorem put_s (b back rows : Bool) (first side cols rws along across a : Int) (ls : List (List Leaf)) (hf : FineP ls) (n : Nat) (lb res : List Leaf) (ha : a = if back then first - 1 - along else along) (hlb : ls[n]? = some lb) (hn : getI back rows side cols a across = n)
    (h1 : 0 ≤ cols) (hc : cols ≤ 1000) (hsd : side ≤ 1000) (h2 : 0 ≤ along) (hal : along < first) (hfs : first ≤ side) (h3 : 0 ≤ across) (hac : across ≤ 1000)
    (hres : if 2 * first - 1 - a < side then ∃ (m : Nat) (lf : List Leaf), ls[m]? = some lf ∧ getI back rows side cols (2 * first - 1 - a) across = m ∧ res = lf.reverse.map (flip rows) ++ lb else res = lb) :
    Ctr Try.prog 115 ([(.v (.int .i64 along)), (.v (.int .i64 across))] ++ ofDL (capP b back rows first side cols rws ls)) (fun rr => rr = ⟨.row 0, [.own 42 4 (res.map eL)]⟩) := by
  obtain ⟨hflb, hllb⟩ := hf lb (List.mem_of_getElem? hlb)
  have get1 := get_s b back rows side cols rws a across ls n lb hlb hn h1 hc hsd (by rw [ha]; split <;> omega) (by rw [ha]; split <;> omega) h3 hac
  have hcl : ∀ l : List Leaf, kpLL (l.map eL) := fun l => by simp [kpLL_map, encs, kpL, kpD]
  have main : ∀ lf : List Leaf, (2 * first - 1 - a < side) → (∃ m : Nat, ls[m]? = some lf ∧ getI back rows side cols (2 * first - 1 - a) across = m) → res = lf.reverse.map (flip rows) ++ lb →
      Ctr Try.prog 115 ([(.v (.int .i64 along)), (.v (.int .i64 across))] ++ ofDL (capP b back rows first side cols rws ls)) (fun rr => rr = ⟨.row 0, [.own 42 4 (res.map eL)]⟩) := by
    rintro lf hlt ⟨m, hm, hmn⟩ rfl
    obtain ⟨hflf, hllf⟩ := hf lf (List.mem_of_getElem? hm)
    have get2 := get_s b back rows side cols rws (2 * first - 1 - a) across ls m lf hm hmn h1 hc hsd (by rw [ha]; split <;> omega) hlt h3 hac
    unfold capP capG at *
    cases back <;> simp only [Bool.false_eq_true, if_false, if_true] at ha <;> subst ha
    · refine Ctr.of (rs := [.tmp 9]) Tok false Try.func115 rfl rfl rfl rfl (by simp [ofDL]) (fun w0 kp => ?_)
      simp only [↓sxD, ↓sxP0, sxP1, sxF, sxA, sxS, sxK, encs, tys, sxN, sevalprocAttr, ne_eq, decide_true, decide_false]
      refine CallI.fn (get1) (by simp only [sxA, sxL, sxF, encs, sxN, sevalprocAttr, ne_eq, decide_true, decide_false] <;> (try simp)) ?_
      simp only [↓sxD, ↓sxP0, sxP1, sxF, sxA, sxS, sxK, encs, tys, sxN, sevalprocAttr, ne_eq, decide_true, decide_false]
      repeat ((with_reducible refine Vc.go ?_ fun _ => ?_); (focus (first | omega | (simp only [InK]; omega) | (simp [InK]; done) | (simp [InK]; omega))); simp only [↓sxD, ↓sxP0, sxP1, sxF, sxA, sxS, sxK, encs, tys, sxN, sevalprocAttr, ne_eq, decide_true, decide_false])
      refine BrW.yes (by omega) ?_
      simp only [↓sxD, ↓sxP0, sxP1, sxF, sxA, sxS, sxK, encs, tys, sxN, sevalprocAttr, ne_eq, decide_true, decide_false]
      refine DrawW.plan Tok mixed (.q 0 <| .q 1 <| .q 2 <| .q 4 <| .q 6 <| .e 3 [4] <| .e 5 [] <| .e 7 [] <| .e 8 [] <| .q 9 <| .done) (by kernel_rfl) (by kernel_rfl) ?_
      simp only [↓sxD, ↓sxP0, sxP1, sxF, sxA, sxS, sxK, encs, tys, sxN, sevalprocAttr, ne_eq, decide_true, decide_false]
      refine CallI.fn (get2) (by simp only [sxA, sxL, sxF, encs, sxN, sevalprocAttr, ne_eq, decide_true, decide_false] <;> (try simp)) ?_
      simp only [↓sxD, ↓sxP0, sxP1, sxF, sxA, sxS, sxK, encs, tys, sxN, sevalprocAttr, ne_eq, decide_true, decide_false]
      refine CallI.ctr (turned_s true lf rows hflf (by omega)) (by simp only [sxA, sxL, sxF, encs, sxN, sevalprocAttr, ne_eq, decide_true, decide_false] <;> (try simp)) ?_
      rintro _ rfl
      simp only [↓sxD, ↓sxP0, sxP1, sxF, sxA, sxS, sxK, encs, tys, sxN, sevalprocAttr, ne_eq, decide_true, decide_false]
      refine CallI.ctr (concat_s false [lf.reverse.map (flip rows), lb] (by simp) (by simp; omega)) (by simp only [sxA, sxL, sxF, encs, sxN, sevalprocAttr, ne_eq, decide_true, decide_false] <;> (try simp)) ?_
      rintro _ rfl
      simp only [↓sxD, ↓sxP0, sxP1, sxF, sxA, sxS, sxK, encs, tys, sxN, sevalprocAttr, ne_eq, decide_true, decide_false]
      exact EndW.r [some 2] (by simp) (by simp only [sxL, sxF, encs, kpLL_map, sxN, sevalprocAttr, ne_eq, decide_true, decide_false] <;> simp [kpL, kpD]) (by simp only [sxL, sxF, encs, kpLL_map, sxN, sevalprocAttr, ne_eq, decide_true, decide_false] <;> simp [kpL, kpD]) (by simp only [sxL, sxF, encs, kpLL_map, sxN, sevalprocAttr, ne_eq, decide_true, decide_false] <;> simp [kpL, kpD]) (by simp only [sxL, sxF, encs, kpLL_map, sxN, sevalprocAttr, ne_eq, decide_true, decide_false] <;> simp [kpL, kpD])
    · refine Ctr.of (rs := [.tmp 9]) Tok false Try.func115 rfl rfl rfl rfl (by simp [ofDL]) (fun w0 kp => ?_)
      simp only [↓sxD, ↓sxP0, sxP1, sxF, sxA, sxS, sxK, encs, tys, sxN, sevalprocAttr, ne_eq, decide_true, decide_false]
      repeat ((with_reducible refine Vc.go ?_ fun _ => ?_); (focus (first | omega | (simp only [InK]; omega) | (simp [InK]; done) | (simp [InK]; omega))); simp only [↓sxD, ↓sxP0, sxP1, sxF, sxA, sxS, sxK, encs, tys, sxN, sevalprocAttr, ne_eq, decide_true, decide_false])
      refine CallI.fn (get1) (by simp only [sxA, sxL, sxF, encs, sxN, sevalprocAttr, ne_eq, decide_true, decide_false] <;> (try simp)) ?_
      simp only [↓sxD, ↓sxP0, sxP1, sxF, sxA, sxS, sxK, encs, tys, sxN, sevalprocAttr, ne_eq, decide_true, decide_false]
      repeat ((with_reducible refine Vc.go ?_ fun _ => ?_); (focus (first | omega | (simp only [InK]; omega) | (simp [InK]; done) | (simp [InK]; omega))); simp only [↓sxD, ↓sxP0, sxP1, sxF, sxA, sxS, sxK, encs, tys, sxN, sevalprocAttr, ne_eq, decide_true, decide_false])
      refine BrW.yes (by omega) ?_
      simp only [↓sxD, ↓sxP0, sxP1, sxF, sxA, sxS, sxK, encs, tys, sxN, sevalprocAttr, ne_eq, decide_true, decide_false]
      refine DrawW.plan Tok mixed (.q 0 <| .q 1 <| .q 2 <| .q 4 <| .q 6 <| .e 3 [4] <| .e 5 [] <| .e 7 [] <| .e 8 [] <| .q 9 <| .done) (by kernel_rfl) (by kernel_rfl) ?_
      simp only [↓sxD, ↓sxP0, sxP1, sxF, sxA, sxS, sxK, encs, tys, sxN, sevalprocAttr, ne_eq, decide_true, decide_false]
      refine CallI.fn (get2) (by simp only [sxA, sxL, sxF, encs, sxN, sevalprocAttr, ne_eq, decide_true, decide_false] <;> (try simp)) ?_
      simp only [↓sxD, ↓sxP0, sxP1, sxF, sxA, sxS, sxK, encs, tys, sxN, sevalprocAttr, ne_eq, decide_true, decide_false]
      refine CallI.ctr (turned_s true lf rows hflf (by omega)) (by simp only [sxA, sxL, sxF, encs, sxN, sevalprocAttr, ne_eq, decide_true, decide_false] <;> (try simp)) ?_
      rintro _ rfl
      simp only [↓sxD, ↓sxP0, sxP1, sxF, sxA, sxS, sxK, encs, tys, sxN, sevalprocAttr, ne_eq, decide_true, decide_false]
      refine CallI.ctr (concat_s false [lf.reverse.map (flip rows), lb] (by simp) (by simp; omega)) (by simp only [sxA, sxL, sxF, encs, sxN, sevalprocAttr, ne_eq, decide_true, decide_false] <;> (try simp)) ?_
      rintro _ rfl
      simp only [↓sxD, ↓sxP0, sxP1, sxF, sxA, sxS, sxK, encs, tys, sxN, sevalprocAttr, ne_eq, decide_true, decide_false]
      exact EndW.r [some 2] (by simp) (by simp only [sxL, sxF, encs, kpLL_map, sxN, sevalprocAttr, ne_eq, decide_true, decide_false] <;> simp [kpL, kpD]) (by simp only [sxL, sxF, encs, kpLL_map, sxN, sevalprocAttr, ne_eq, decide_true, decide_false] <;> simp [kpL, kpD]) (by simp only [sxL, sxF, encs, kpLL_map, sxN, sevalprocAttr, ne_eq, decide_true, decide_false] <;> simp [kpL, kpD]) (by simp only [sxL, sxF, encs, kpLL_map, sxN, sevalprocAttr, ne_eq, decide_true, decide_false] <;> simp [kpL, kpD])
  by_cases hlt : 2 * first - 1 - a < side
  · rw [if_pos hlt] at hres
    obtain ⟨m, lf, hm, hmn, hr⟩ := hres
    exact main lf hlt ⟨m, hm, hmn⟩ hr
  · rw [if_neg hlt] at hres
    subst hres
    clear main
    unfold capP capG at *
    cases back <;> simp only [Bool.false_eq_true, if_false, if_true] at ha <;> subst ha
    · refine Ctr.of (rs := [.tmp 9]) Tok false Try.func115 rfl rfl rfl rfl (by simp [ofDL]) (fun w0 kp => ?_)
      simp only [↓sxD, ↓sxP0, sxP1, sxF, sxA, sxS, sxK, encs, tys, sxN, sevalprocAttr, ne_eq, decide_true, decide_false]
      refine CallI.fn (get1) (by simp only [sxA, sxL, sxF, encs, sxN, sevalprocAttr, ne_eq, decide_true, decide_false] <;> (try simp)) ?_
      simp only [↓sxD, ↓sxP0, sxP1, sxF, sxA, sxS, sxK, encs, tys, sxN, sevalprocAttr, ne_eq, decide_true, decide_false]
      repeat ((with_reducible refine Vc.go ?_ fun _ => ?_); (focus (first | omega | (simp only [InK]; omega) | (simp [InK]; done) | (simp [InK]; omega))); simp only [↓sxD, ↓sxP0, sxP1, sxF, sxA, sxS, sxK, encs, tys, sxN, sevalprocAttr, ne_eq, decide_true, decide_false])
      refine BrW.no (by omega) ?_
      simp only [↓sxD, ↓sxP0, sxP1, sxF, sxA, sxS, sxK, encs, tys, sxN, sevalprocAttr, ne_eq, decide_true, decide_false]
      refine CallI.ctr (clone_s true (res.map eL) (hcl _) (by simp; omega)) (by simp only [sxA, sxL, sxF, encs, sxN, sevalprocAttr, ne_eq, decide_true, decide_false] <;> (try simp)) ?_
      rintro _ rfl
      simp only [↓sxD, ↓sxP0, sxP1, sxF, sxA, sxS, sxK, encs, tys, sxN, sevalprocAttr, ne_eq, decide_true, decide_false]
      exact EndW.r [some 0] (by simp) (by simp only [sxL, sxF, encs, kpLL_map, sxN, sevalprocAttr, ne_eq, decide_true, decide_false] <;> simp [kpL, kpD]) (by simp only [sxL, sxF, encs, kpLL_map, sxN, sevalprocAttr, ne_eq, decide_true, decide_false] <;> simp [kpL, kpD]) (by simp only [sxL, sxF, encs, kpLL_map, sxN, sevalprocAttr, ne_eq, decide_true, decide_false] <;> simp [kpL, kpD]) (by simp only [sxL, sxF, encs, kpLL_map, sxN, sevalprocAttr, ne_eq, decide_true, decide_false] <;> simp [kpL, kpD])
    · refine Ctr.of (rs := [.tmp 9]) Tok false Try.func115 rfl rfl rfl rfl (by simp [ofDL]) (fun w0 kp => ?_)
      simp only [↓sxD, ↓sxP0, sxP1, sxF, sxA, sxS, sxK, encs, tys, sxN, sevalprocAttr, ne_eq, decide_true, decide_false]
      repeat ((with_reducible refine Vc.go ?_ fun _ => ?_); (focus (first | omega | (simp only [InK]; omega) | (simp [InK]; done) | (simp [InK]; omega))); simp only [↓sxD, ↓sxP0, sxP1, sxF, sxA, sxS, sxK, encs, tys, sxN, sevalprocAttr, ne_eq, decide_true, decide_false])
      refine CallI.fn (get1) (by simp only [sxA, sxL, sxF, encs, sxN, sevalprocAttr, ne_eq, decide_true, decide_false] <;> (try simp)) ?_
      simp only [↓sxD, ↓sxP0, sxP1, sxF, sxA, sxS, sxK, encs, tys, sxN, sevalprocAttr, ne_eq, decide_true, decide_false]
      repeat ((with_reducible refine Vc.go ?_ fun _ => ?_); (focus (first | omega | (simp only [InK]; omega) | (simp [InK]; done) | (simp [InK]; omega))); simp only [↓sxD, ↓sxP0, sxP1, sxF, sxA, sxS, sxK, encs, tys, sxN, sevalprocAttr, ne_eq, decide_true, decide_false])
      refine BrW.no (by omega) ?_
      simp only [↓sxD, ↓sxP0, sxP1, sxF, sxA, sxS, sxK, encs, tys, sxN, sevalprocAttr, ne_eq, decide_true, decide_false]
      refine CallI.ctr (clone_s true (res.map eL) (hcl _) (by simp; omega)) (by simp only [sxA, sxL, sxF, encs, sxN, sevalprocAttr, ne_eq, decide_true, decide_false] <;> (try simp)) ?_
      rintro _ rfl
      simp only [↓sxD, ↓sxP0, sxP1, sxF, sxA, sxS, sxK, encs, tys, sxN, sevalprocAttr, ne_eq, decide_true, decide_false]
      exact EndW.r [some 0] (by simp) (by simp only [sxL, sxF, encs, kpLL_map, sxN, sevalprocAttr, ne_eq, decide_true, decide_false] <;> simp [kpL, kpD]) (by simp only [sxL, sxF, encs, kpLL_map, sxN, sevalprocAttr, ne_eq, decide_true, decide_false] <;> simp [kpL, kpD]) (by simp only [sxL, sxF, encs, kpLL_map, sxN, sevalprocAttr, ne_eq, decide_true, decide_false] <;> simp [kpL, kpD]) (by simp only [sxL, sxF, encs, kpLL_map, sxN, sevalprocAttr, ne_eq, decide_true, decide_false] <;> simp [kpL, kpD])
/-- the stack that lies at a place of a pile that is laid over. -/
def getAt (back rows : Bool) (side cols along across : Nat) : Nat :=
  if rows then (if back then side - 1 - along else along) * cols + across else across * cols + (if back then side - 1 - along else along)
def laidAt (cols rws first : Nat) (rows back : Bool) (ls : List (List Leaf)) (along across : Nat) : List Leaf :=
  let side := if rows then rws else cols
  let a := if back then first - 1 - along else along
  let lb := stkAt ls (getAt back rows side cols a across)
  if 2 * first - 1 - a < side then (stkAt ls (getAt back rows side cols (2 * first - 1 - a) across)).reverse.map (flip rows) ++ lb else lb
def laidG (cols rws first : Nat) (rows back : Bool) (ls : List (List Leaf)) : List (List Leaf) :=
  if rows then grid cols first fun c r => laidAt cols rws first rows back ls r c else grid first rws fun c r => laidAt cols rws first rows back ls c r
theorem getI_at {back rows : Bool} {side cols along across : Nat} (h : along < side) : getI back rows side cols along across = getAt back rows side cols along across := by
  unfold getI getAt
  have : ((side - 1 - along : Nat) : Int) = (side : Int) - 1 - along := by omega
  cases back <;> cases rows <;> simp [Int.natCast_add, Int.natCast_mul, this]
theorem get_lt {back rows : Bool} {cols rws a across : Nat} (ha : a < if rows then rws else cols) (hx : across < if rows then cols else rws) : getAt back rows (if rows then rws else cols) cols a across < rws * cols := by
  unfold getAt
  cases rows
  · simp only [Bool.false_eq_true, if_false] at ha hx ⊢
    exact cell_lt hx (by split <;> omega)
  · simp only [if_true] at ha hx ⊢
    exact cell_lt (by split <;> omega) hx
theorem put_at (b back rows : Bool) (cols rws first : Nat) (ls : List (List Leaf)) (hf : FineP ls) (hc : cols ≤ 1000) (hr : rws ≤ 1000) (hn : ls.length = rws * cols) (h1 : first ≤ if rows then rws else cols) (along across : Nat) (hal : along < first) (hac : across < if rows then cols else rws) :
    Ctr Try.prog 115 ([(.v (.int .i64 along)), (.v (.int .i64 across))] ++ ofDL (capP b back rows first (if rows then rws else cols : Nat) cols rws ls)) (fun rr => rr = ⟨.row 0, [.own 42 4 ((laidAt cols rws first rows back ls along across).map eL)]⟩) := by
  have hsd : (if rows then rws else cols) ≤ 1000 := by split <;> omega
  have hac2 : across ≤ 1000 := by
    cases rows
    · simp only [Bool.false_eq_true, if_false] at hac; omega
    · simp only [if_true] at hac; omega
  have ha : (if back then first - 1 - along else along) < if rows then rws else cols := by
    cases back <;> simp only [if_true, Bool.false_eq_true, if_false] <;> omega
  have haf : (if back then first - 1 - along else along) < first := by
    cases back <;> simp only [if_true, Bool.false_eq_true, if_false] <;> omega
  have hai : (((if back then first - 1 - along else along : Nat)) : Int) = if back then (first : Int) - 1 - along else along := by
    cases back <;> simp only [if_true, Bool.false_eq_true, if_false]; omega
  have hlen : ls[getAt back rows (if rows then rws else cols) cols (if back then first - 1 - along else along) across]? = some _ := stkAt_get (by rw [hn]; exact get_lt ha hac)
  refine put_s b back rows first (if rows then rws else cols : Nat) cols rws along across _ ls hf _ _ _ hai hlen (getI_at ha) (by omega) (by omega) (by omega) (by omega) (by omega) (by omega) (by omega) (by omega) ?_
  unfold laidAt
  simp only []
  generalize (if back then first - 1 - along else along) = a at *
  by_cases hlt : 2 * first - 1 - a < if rows then rws else cols
  · rw [if_pos hlt, if_pos (by omega)]
    refine ⟨_, _, stkAt_get (by rw [hn]; exact get_lt hlt hac), ?_, rfl⟩
    rw [← getI_at hlt]
    congr 1; omega
  · rw [if_neg hlt, if_neg (by omega)]
end Go.Proofs.Ytfpkpokkgbobmaa
