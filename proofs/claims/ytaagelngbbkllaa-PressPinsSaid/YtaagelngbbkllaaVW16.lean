/-
  Chapter 9, walks: the best order.
-/
import Derived.Test.YtaagelngbbkllaaVW15
namespace Go.Proofs.Ytaagelngbbkllaa
open Go Go.Vx
set_option linter.unusedSimpArgs false
set_option linter.unusedVariables false
set_option maxRecDepth 20000
theorem ordL_mem {n : Nat} : ∀ (m : Nat) (head : List Int) (o : List Int), o ∈ ordL n m head → o.length = head.length + m ∧ (∀ a ∈ o, a ∈ head ∨ (0 ≤ a ∧ a < (n : Int))) ∧ (head.Nodup → o.Nodup)
  | 0, head, o, h => by
    simp only [ordL, List.mem_singleton] at h
    subst h
    exact ⟨rfl, fun a ha => .inl ha, fun h => h⟩
  | m + 1, head, o, h => by
    simp only [ordL, List.mem_flatMap, List.mem_range] at h
    obtain ⟨i, hi, h⟩ := h
    split at h
    · cases h
    · rename_i hin
      obtain ⟨h1, h2, h3⟩ := ordL_mem m _ o h
      refine ⟨by rw [h1]; simp; omega, fun a ha => ?_, fun hd => h3 ?_⟩
      · rcases h2 a ha with h4 | h4
        · rcases List.mem_append.1 h4 with h5 | h5
          · exact .inl h5
          · rw [List.mem_singleton] at h5; subst h5; exact .inr (by omega)
        · exact .inr h4
      · have hin : (i : Int) ∉ head := by rwa [memB_iff] at hin
        simp only [List.nodup_append, List.nodup_cons, List.not_mem_nil, not_false_eq_true, List.nodup_nil, and_self, true_and, List.mem_singleton]
        exact ⟨hd, fun a ha b hb e => hin (by rw [← hb, ← e]; exact ha)⟩
/-- the best order so far: its minutes, it, whether there is one. -/
structure Bst where
  minutes : Int
  order : List Int
  any : Bool
def bst1 (c : Cols) (s : Bst) (o : List Int) : Bst := if (!(allE c o).barred && decide (endB (allE c o) < s.minutes)) = true then ⟨endB (allE c o), o, true⟩ else s
def bst (c : Cols) (os : List (List Int)) : Bst := os.foldl (bst1 c) ⟨1000000, [], false⟩
def ordA (c : Cols) : List (List Int) := ordL c.minutes.length c.minutes.length []
def bstO (c : Cols) : Bst := bst c (ordA c)
def treeB (c : Cols) : List Nd := growE c (bstO c).minutes c.minutes.length g0 []
def bestV (c : Cols) : SV := if colErr c = 0 then .tup [.sl true 1 (if (bstO c).any = true then (bstO c).order.map eI else []), (.v (.int .i64 (if (bstO c).any = true then (bstO c).minutes else 0))), .sl true 2 ((treeB c).map eM), (.v (.int .i64 (if (bstO c).any = true then 0 else 12)))]
  else .tup [.sl true 1 [], (.v (.int .i64 0)), .sl true 2 [], (.v (.int .i64 (colErr c)))]
theorem kpM (x : Nd) : kpL (eM x) := ⟨trivial, kpO _, trivial⟩
theorem nB_le : ∀ f, f ≤ 6 → nB f ≤ 60000
  | 0, _ => by decide
  | 1, _ => by decide
  | 2, _ => by decide
  | 3, _ => by decide
  | 4, _ => by decide
  | 5, _ => by decide
  | 6, _ => by decide
  | n + 7, h => by omega
def bstK (c : Cols) (k : Nat) : Bst := bst c ((ordA c).take k)
theorem bstK_succ {c : Cols} {k : Nat} (h : k < (ordA c).length) : bstK c (k + 1) = bst1 c (bstK c k) (ordA c)[k] := by
  unfold bstK bst
  rw [List.take_succ_eq_append_getElem h, List.foldl_append]; rfl
theorem bestOrder_s (b1 b2 b3 : Bool) (c : Cols) (hd : ∀ r ∈ c.dry, r.length ≤ 1000000000) : Ctr Try.prog 61 [cV true true true c] (fun rr => rr = ⟨bestV c, []⟩) := by
  have encs := And.intro (And.intro (And.intro (And.intro encs kpM) (And.intro gV_eq gC_eq)) sxMut) (show ∀ head n, ordC head n = [.pt true [.sl true 1 (head.map eI)], .pt true [.v (.int .i64 n)]] from fun _ _ => rfl)
  refine Ctr.of (rs := [.tmp 2, .tmp 3, .tmp 4, .tmp 5]) Tok true Try.func61 rfl rfl rfl rfl (by simp [ofDL]) (fun w0 kp => ?_)
  simp only [↓sxD, ↓sxP0, ↓sxP3, ↓sxGd, sxP1, sxF, sxA, sxS, sxK, sxG, sxZ, sxH, sxU, encs, tys, sxN, sevalprocAttr, ne_eq, decide_true, decide_false]
  refine CallI.fn (checkColours_s true true true c hd) (by simp only [sxA, sxL, sxF, sxG, sxH, sxU, encs, sxN, sevalprocAttr, ne_eq, decide_true, decide_false] <;> (try simp) <;> (try rfl)) ?_
  simp only [↓sxD, ↓sxP0, ↓sxP3, ↓sxGd, sxP1, sxF, sxA, sxS, sxK, sxG, sxZ, sxH, sxU, encs, tys, sxN, sevalprocAttr, ne_eq, decide_true, decide_false]
  refine BrW.dec (fun h1 => ?_) (fun h1 => ?_)
  · simp only [↓sxD, ↓sxP0, ↓sxP3, ↓sxGd, sxP1, sxF, sxA, sxS, sxK, sxG, sxZ, sxH, sxU, encs, tys, sxN, sevalprocAttr, ne_eq, decide_true, decide_false]
    have h1 : ¬ colErr c = 0 := h1
    rw [show bestV c = .tup [.sl true 1 [], (.v (.int .i64 0)), .sl true 2 [], (.v (.int .i64 (colErr c)))] by rw [bestV, if_neg h1]]
    exact EndW.fn (by simp only [sxL, sxG, sxH, sxU, encs, kpLL_map, sxN, sevalprocAttr, ne_eq, decide_true, decide_false] <;> (try simp) <;> (try omega)) (by simp only [sxL, sxG, sxH, sxU, encs, kpLL_map, sxN, sevalprocAttr, ne_eq, decide_true, decide_false] <;> (try simp) <;> (try omega))
  · simp only [↓sxD, ↓sxP0, ↓sxP3, ↓sxGd, sxP1, sxF, sxA, sxS, sxK, sxG, sxZ, sxH, sxU, encs, tys, sxN, sevalprocAttr, ne_eq, decide_true, decide_false]
    have h1 : colErr c = 0 := Decidable.not_not.1 h1
    have hc := colErr_ok h1
    have hn := hc.n
    refine CallI.fn (orders_s [] (c.minutes.length : Int)) (by simp only [sxA, sxL, sxF, sxG, sxH, sxU, encs, sxN, sevalprocAttr, ne_eq, decide_true, decide_false] <;> (try simp) <;> (try rfl)) ?_
    simp only [↓sxD, ↓sxP0, ↓sxP3, ↓sxGd, sxP1, sxF, sxA, sxS, sxK, sxG, sxZ, sxH, sxU, encs, tys, sxN, sevalprocAttr, ne_eq, decide_true, decide_false]
    have hit := ordersIt_s c.minutes.length (by omega) c.minutes.length [] (by simp)
    have hA : ordL c.minutes.length c.minutes.length [] = ordA c := rfl
    rw [hA] at hit
    have encs := And.intro (And.intro encs (show ∀ o, eO o = [.sl true 1 (o.map eI)] from fun _ => rfl)) (show bstK c 0 = ⟨1000000, [], false⟩ from rfl)
    refine RangeW.it Tok (fun _ => rfl) (fun hro => by first | rfl | exact (by rw [hro] at *; contradiction)) (hit) [(1, .box 0 0), (7, .box 2 0), (8, .box 3 0), (9, .box 4 0), (24, .clo 131 (ordC [] (c.minutes.length : Int)))] (fun ys => [some ⟨76, [.sl true 1 (c.minutes.map eI), .sl true 1 (c.dry.map (eIB true))]⟩, some ⟨165, [.sl true 1 (c.minutes.map eI), .sl true 1 (c.dry.map (eIB true)), (.v (.int .i64 ((bstK c ys.length).minutes))), .v (.slice none 0 0)]⟩, some ⟨163, [.box 1 0]⟩, some ⟨59, [.sl true 1 ((bstK c ys.length).order.map eI)]⟩, some ⟨4, [.v (.bool (bstK c ys.length).any)]⟩]) (fun ys => []) (fun _ => True) trivial (by simp only [sxS, sxL, sxF, sxG, sxH, sxU, encs, sxN, sevalprocAttr, ne_eq, decide_true, decide_false] <;> (try simp) <;> (try omega)) rfl rfl (by simp [eO]) ?_ (fun hJall => ?_)
    · rintro pre d hpre - ρ σ μ ho' hy hs
      obtain ⟨q, hq⟩ := hpre
      have hk : pre.length < (ordA c).length := by
        have := congrArg List.length hq
        simp at this; omega
      have hd : d = eO (ordA c)[pre.length] := by
        have : ((ordA c).map eO)[pre.length]? = some d := by rw [← hq]; simp
        simpa [List.getElem?_eq_getElem hk, eq_comm] using this
      subst hd
      obtain ⟨ho1, ho2, ho3⟩ := ordL_mem _ _ _ (show (ordA c)[pre.length] ∈ ordL c.minutes.length c.minutes.length [] from List.getElem_mem hk)
      obtain ⟨yd', ro, mks, fr, lp, sz⟩ := ho'
      have hob : ∀ a ∈ (ordA c)[pre.length], 0 ≤ a ∧ a < (c.minutes.length : Int) := fun a ha => by
        rcases ho2 a ha with h | h
        · cases h
        · exact h
      have hol : (ordA c)[pre.length].length = c.minutes.length := by simpa using ho1
      have hok := allE_ok hc hob (ordA c)[pre.length].length (Nat.le_refl _)
      rw [List.take_length] at hok
      have hsu := bstK_succ hk
      have hle := hok.le
      simp only [↓sxD, ↓sxP0, ↓sxP3, ↓sxGd, sxP1, sxF, sxA, sxS, sxK, sxG, sxZ, sxH, sxU, encs, tys, sxN, sevalprocAttr, ne_eq, decide_true, decide_false]
      intro fr'
      refine CallI.fn (all_s true true true true c (ordA c)[pre.length] hc (by omega) hob) (by simp only [sxA, sxL, sxF, sxG, sxH, sxU, encs, sxN, sevalprocAttr, ne_eq, decide_true, decide_false] <;> (try simp) <;> (try rfl)) ?_
      simp only [↓sxD, ↓sxP0, ↓sxP3, ↓sxGd, sxP1, sxF, sxA, sxS, sxK, sxG, sxZ, sxH, sxU, encs, tys, sxN, sevalprocAttr, ne_eq, decide_true, decide_false]
      refine DrawW.plan Tok mixed (.q 0 <| .q 1 <| .q 2 <| .q 3 <| .q 4 <| .q 6 <| .q 7 <| .q 8 <| .q 9 <| .e 5 [6, 9] <| .q 10 <| .q 11 <| .done) (by kernel_rfl) (by kernel_rfl) ?_
      simp only [↓sxD, ↓sxP0, ↓sxP3, ↓sxGd, sxP1, sxF, sxA, sxS, sxK, sxG, sxZ, sxH, sxU, encs, tys, sxN, sevalprocAttr, ne_eq, decide_true, decide_false]
      refine BrW.of (fun hb => ?_) (fun hb => ?_)
      · have hb' : (allE c (ordA c)[pre.length]).barred = true := by simpa using hb
        have he : bstK c (pre.length + 1) = bstK c pre.length := by rw [hsu, bst1, hb']; rfl
        simp only [↓sxD, ↓sxP0, ↓sxP3, ↓sxGd, sxP1, sxF, sxA, sxS, sxK, sxG, sxZ, sxH, sxU, encs, tys, sxN, sevalprocAttr, ne_eq, decide_true, decide_false]
        rw [he]
        simp only [sxS, sxL, sxF, sxG, sxH, sxU, encs, sxN, sevalprocAttr, ne_eq, decide_true, decide_false] <;> (try simp) <;> (try omega)
      · have hb' : (allE c (ordA c)[pre.length]).barred = false := by simpa using hb
        simp only [↓sxD, ↓sxP0, ↓sxP3, ↓sxGd, sxP1, sxF, sxA, sxS, sxK, sxG, sxZ, sxH, sxU, encs, tys, sxN, sevalprocAttr, ne_eq, decide_true, decide_false]
        refine CallI.fn (end_s true true (allE c (ordA c)[pre.length]) (by omega)) (by simp only [sxA, sxL, sxF, sxG, sxH, sxU, encs, sxN, sevalprocAttr, ne_eq, decide_true, decide_false] <;> (try simp) <;> (try rfl)) ?_
        simp only [↓sxD, ↓sxP0, ↓sxP3, ↓sxGd, sxP1, sxF, sxA, sxS, sxK, sxG, sxZ, sxH, sxU, encs, tys, sxN, sevalprocAttr, ne_eq, decide_true, decide_false]
        refine BrW.dec (fun h2 => ?_) (fun h2 => ?_)
        · have he : bstK c (pre.length + 1) = ⟨endB (allE c (ordA c)[pre.length]), (ordA c)[pre.length], true⟩ := by rw [hsu, bst1, hb']; simp [h2]
          simp only [↓sxD, ↓sxP0, ↓sxP3, ↓sxGd, sxP1, sxF, sxA, sxS, sxK, sxG, sxZ, sxH, sxU, encs, tys, sxN, sevalprocAttr, ne_eq, decide_true, decide_false]
          refine DrawW.plan Tok mixed (.q 0 <| .q 1 <| .q 2 <| .e 3 [0] <| .e 4 [0] <| .q 5 <| .q 6 <| .e 7 [] <| .e 8 [] <| .done) (by kernel_rfl) (by kernel_rfl) ?_
          simp only [↓sxD, ↓sxP0, ↓sxP3, ↓sxGd, sxP1, sxF, sxA, sxS, sxK, sxG, sxZ, sxH, sxU, encs, tys, sxN, sevalprocAttr, ne_eq, decide_true, decide_false]
          refine CallI.fn (end_s true true (allE c (ordA c)[pre.length]) (by omega)) (by simp only [sxA, sxL, sxF, sxG, sxH, sxU, encs, sxN, sevalprocAttr, ne_eq, decide_true, decide_false] <;> (try simp) <;> (try rfl)) ?_
          simp only [↓sxD, ↓sxP0, ↓sxP3, ↓sxGd, sxP1, sxF, sxA, sxS, sxK, sxG, sxZ, sxH, sxU, encs, tys, sxN, sevalprocAttr, ne_eq, decide_true, decide_false]
          rw [he]
          simp only [sxS, sxL, sxF, sxG, sxH, sxU, encs, sxN, sevalprocAttr, ne_eq, decide_true, decide_false] <;> (try simp) <;> (try omega)
        · have he : bstK c (pre.length + 1) = bstK c pre.length := by rw [hsu, bst1, hb']; simp [h2]
          simp only [↓sxD, ↓sxP0, ↓sxP3, ↓sxGd, sxP1, sxF, sxA, sxS, sxK, sxG, sxZ, sxH, sxU, encs, tys, sxN, sevalprocAttr, ne_eq, decide_true, decide_false]
          rw [he]
          simp only [sxS, sxL, sxF, sxG, sxH, sxU, encs, sxN, sevalprocAttr, ne_eq, decide_true, decide_false] <;> (try simp) <;> (try omega)
    · have hbl : bstK c ((ordA c).map eO).length = bstO c := by rw [List.length_map]; simp [bstK, bstO]
      rw [hbl]
      have hg := grow_s c (bstO c).minutes hc c.minutes.length g0 0 [] (g0_ok c) (by omega) List.nodup_nil (by have := nB_le c.minutes.length hn; simp; omega)
      unfold GrowS at hg
      simp only [↓sxD, ↓sxP0, ↓sxP3, ↓sxGd, sxP1, sxF, sxA, sxS, sxK, sxG, sxZ, sxH, sxU, encs, tys, sxN, sevalprocAttr, ne_eq, decide_true, decide_false]
      refine CallI.ctrM (k := 1) (γ := [none]) (hg) rfl (by simp only [sxS, sxL, sxF, sxG, sxH, sxU, encs, List.map_cons, List.map_nil, sxN, sevalprocAttr, ne_eq, decide_true, decide_false] <;> (try simp [g0])) (by simp) (by simp only [sxS, sxL, sxF, sxG, sxH, sxU, encs, List.map_cons, List.map_nil, sxN, sevalprocAttr, ne_eq, decide_true, decide_false] <;> (try simp [g0])) (by simp only [sxS, sxL, sxF, sxG, sxH, sxU, encs, List.map_cons, List.map_nil, sxN, sevalprocAttr, ne_eq, decide_true, decide_false] <;> (try simp [g0])) (noGhB_spec rfl) ?_
      rintro _ _ _ ⟨rfl, rfl, rfl⟩
      simp only [↓sxD, ↓sxP0, ↓sxP3, ↓sxGd, sxP1, sxF, sxA, sxS, sxK, sxG, sxZ, sxH, sxU, encs, tys, sxN, sevalprocAttr, ne_eq, decide_true, decide_false]
      refine BrW.of (fun ha => ?_) (fun ha => ?_)
      · simp only [↓sxD, ↓sxP0, ↓sxP3, ↓sxGd, sxP1, sxF, sxA, sxS, sxK, sxG, sxZ, sxH, sxU, encs, tys, sxN, sevalprocAttr, ne_eq, decide_true, decide_false]
        rw [show bestV c = .tup [.sl true 1 ((bstO c).order.map eI), (.v (.int .i64 ((bstO c).minutes))), .sl true 2 ((treeB c).map eM), (.v (.int .i64 0))] by rw [bestV, if_pos h1, ha]; rfl]
        refine DrawW.plan Tok mixed (.q 0 <| .q 1 <| .q 2 <| .q 3 <| .q 4 <| .q 5 <| .q 6 <| .q 7 <| .q 8 <| .q 9 <| .q 10 <| .q 11 <| .q 12 <| .done) (by kernel_rfl) (by kernel_rfl) ?_
        simp only [↓sxD, ↓sxP0, ↓sxP3, ↓sxGd, sxP1, sxF, sxA, sxS, sxK, sxG, sxZ, sxH, sxU, encs, tys, sxN, sevalprocAttr, ne_eq, decide_true, decide_false]
        exact EndW.fn (by simp only [sxL, sxG, sxH, sxU, encs, kpLL_map, sxN, sevalprocAttr, ne_eq, decide_true, decide_false] <;> (try simp [treeB]) <;> (try omega)) (by simp only [sxL, sxG, sxH, sxU, encs, kpLL_map, sxN, sevalprocAttr, ne_eq, decide_true, decide_false] <;> (try simp) <;> (try omega))
      · simp only [↓sxD, ↓sxP0, ↓sxP3, ↓sxGd, sxP1, sxF, sxA, sxS, sxK, sxG, sxZ, sxH, sxU, encs, tys, sxN, sevalprocAttr, ne_eq, decide_true, decide_false]
        rw [show bestV c = .tup [.sl true 1 [], (.v (.int .i64 0)), .sl true 2 ((treeB c).map eM), (.v (.int .i64 12))] by rw [bestV, if_pos h1, ha]; rfl]
        refine DrawW.plan Tok mixed (.q 0 <| .q 1 <| .q 2 <| .q 3 <| .q 4 <| .q 5 <| .q 6 <| .q 7 <| .done) (by kernel_rfl) (by kernel_rfl) ?_
        simp only [↓sxD, ↓sxP0, ↓sxP3, ↓sxGd, sxP1, sxF, sxA, sxS, sxK, sxG, sxZ, sxH, sxU, encs, tys, sxN, sevalprocAttr, ne_eq, decide_true, decide_false]
        exact EndW.fn (by simp only [sxL, sxG, sxH, sxU, encs, kpLL_map, sxN, sevalprocAttr, ne_eq, decide_true, decide_false] <;> (try simp [treeB]) <;> (try omega)) (by simp only [sxL, sxG, sxH, sxU, encs, kpLL_map, sxN, sevalprocAttr, ne_eq, decide_true, decide_false] <;> (try simp) <;> (try omega))
end Go.Proofs.Ytaagelngbbkllaa
