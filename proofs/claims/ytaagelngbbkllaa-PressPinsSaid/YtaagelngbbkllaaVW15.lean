/-
  Chapter 9, walks: a tree of orders grows.
-/
import Derived.Test.YtaagelngbbkllaaVW14
namespace Go.Proofs.Ytaagelngbbkllaa
open Go Go.Vx
set_option linter.unusedSimpArgs false
set_option linter.unusedVariables false
set_option maxRecDepth 20000
/-- A node; its next ones may be nil. -/
structure Nd where
  kind : Int
  next : Option (List Int)
def eO1 : Option (List Int) → D
  | none => .v (.slice none 0 0)
  | some l => .sl true 1 (l.map eI)
def eM (x : Nd) : List D := [.v (.int .i64 x.kind), eO1 x.next]
theorem eM_eqs : (∀ x, eM x = [.v (.int .i64 x.kind), eO1 x.next]) ∧ (eO1 none = .v (.slice none 0 0)) ∧ (∀ l, eO1 (some l) = .sl true 1 (l.map eI)) := ⟨fun _ => rfl, rfl, fun _ => rfl⟩
theorem mod_last {l : List (List D)} {y z : List D} {f : List D → List D} (h : f y = z) : (l ++ [y]).modify ((l.length : Int)).toNat f = l ++ [z] := by
  rw [Int.toNat_natCast]
  induction l with
  | nil => simp [h]
  | cons a l ih => simpa using ih
theorem modN {l : List Nd} {y : List D} {f : List D → List D} : (l.map eM ++ [y]).modify l.length f = l.map eM ++ [f y] := by
  have := mod_last (l := l.map eM) (y := y) (f := f) rfl
  rwa [List.length_map, Int.toNat_natCast] at this
theorem modP {l t : List Nd} {y : List D} {f : List D → List D} : (l.map eM ++ y :: t.map eM).modify l.length f = l.map eM ++ f y :: t.map eM := by
  induction l with
  | nil => simp
  | cons a l ih => simpa using ih
theorem setNd {l t : List Nd} {y z : Nd} : (l ++ [y] ++ t).set l.length z = l ++ z :: t := by
  induction l with
  | nil => simp
  | cons a l ih => simp
theorem kpO (n : Option (List Int)) : kpD (eO1 n) := by
  cases n with
  | none => trivial
  | some l => simp [eO1, kpD, kpLL_map, eI, kpL]
def grK (c : Cols) (rec : Beg → List Nd → List Nd) (x : Beg) (nodes : List Nd) : Nat → List Nd × List Int
  | 0 => (nodes ++ [⟨0, none⟩], [])
  | k + 1 => if memB (k : Int) x.order = true then grK c rec x nodes k else (rec (withE c x (k : Int)) (grK c rec x nodes k).1, (grK c rec x nodes k).2 ++ [((grK c rec x nodes k).1.length : Int)])
def grF (c : Cols) (ms : Int) (rec : Beg → List Nd → List Nd) (x : Beg) (nodes : List Nd) : List Nd :=
  if x.barred = true then nodes ++ [⟨1, none⟩]
  else if ms ≤ leastE c x then nodes ++ [⟨2, none⟩]
  else (grK c rec x nodes c.minutes.length).1.set nodes.length ⟨0, some (grK c rec x nodes c.minutes.length).2⟩
def growE (c : Cols) (ms : Int) : Nat → Beg → List Nd → List Nd
  | 0 => grF c ms fun _ t => t
  | f + 1 => grF c ms (growE c ms f)
def nB : Nat → Nat
  | 0 => 1
  | f + 1 => 1 + 6 * nB f
theorem pre_set {α : Type} {l m : List α} {y : α} (h : l <+: m) : l <+: m.set l.length y := by
  obtain ⟨t, rfl⟩ := h
  rw [List.set_append_right _ _ (Nat.le_refl _)]
  exact List.prefix_append _ _
theorem grK_pre {c : Cols} {rec : Beg → List Nd → List Nd} (hp : ∀ y t, t <+: rec y t) (x : Beg) (nodes : List Nd) : ∀ k, (nodes ++ [⟨0, none⟩]) <+: (grK c rec x nodes k).1
  | 0 => List.prefix_rfl
  | k + 1 => by
    have ih := grK_pre hp x nodes k (c := c)
    simp only [grK]
    split
    · exact ih
    · exact ih.trans (hp _ _)
theorem grF_pre {c : Cols} {ms : Int} {rec : Beg → List Nd → List Nd} (hp : ∀ y t, t <+: rec y t) (x : Beg) (nodes : List Nd) : nodes <+: grF c ms rec x nodes := by
  unfold grF
  split
  · exact List.prefix_append _ _
  · split
    · exact List.prefix_append _ _
    · exact pre_set ((List.prefix_append _ _).trans (grK_pre hp x nodes _))
theorem growE_pre (c : Cols) (ms : Int) : ∀ f y t, t <+: growE c ms f y t
  | 0, y, t => grF_pre (fun _ _ => List.prefix_rfl) y t
  | f + 1, y, t => grF_pre (growE_pre c ms f) y t
theorem grK_len {c : Cols} {rec : Beg → List Nd → List Nd} {B : Nat} (hl : ∀ y t, (rec y t).length ≤ t.length + B) (x : Beg) (nodes : List Nd) : ∀ k, (grK c rec x nodes k).1.length ≤ nodes.length + 1 + k * B ∧ (grK c rec x nodes k).2.length ≤ k
  | 0 => by simp [grK]
  | k + 1 => by
    have ih := grK_len hl x nodes k (c := c)
    have h2 := hl (withE c x (k : Int)) (grK c rec x nodes k).1
    rw [Nat.succ_mul]
    simp only [grK]
    split
    · omega
    · simp only [List.length_append, List.length_singleton]; omega
theorem grF_len {c : Cols} (hn : c.minutes.length ≤ 6) {ms : Int} {rec : Beg → List Nd → List Nd} {B : Nat} (hl : ∀ y t, (rec y t).length ≤ t.length + B) (x : Beg) (nodes : List Nd) : (grF c ms rec x nodes).length ≤ nodes.length + (1 + 6 * B) := by
  unfold grF
  have h := (grK_len hl x nodes c.minutes.length (c := c)).1
  have h2 : c.minutes.length * B ≤ 6 * B := Nat.mul_le_mul_right _ hn
  split
  · simp
  · split
    · simp
    · rw [List.length_set]; omega
theorem growE_len {c : Cols} (hn : c.minutes.length ≤ 6) (ms : Int) : ∀ f y t, (growE c ms f y t).length ≤ t.length + nB f
  | 0, y, t => by
    have := grF_len hn (ms := ms) (rec := fun _ t => t) (B := 0) (fun _ _ => Nat.le_refl _) y t
    simpa only [growE, nB] using this
  | f + 1, y, t => grF_len hn (growE_len hn ms f) y t
def gC (c : Cols) (ms : Int) : List SV := [.sl true 1 (c.minutes.map eI), .sl true 1 (c.dry.map (eIB true)), (.v (.int .i64 ms)), .row 0]
theorem gC_eq (c : Cols) (ms : Int) : gC c ms = [.sl true 1 (c.minutes.map eI), .sl true 1 (c.dry.map (eIB true)), (.v (.int .i64 ms)), .row 0] := rfl
def GrowS (c : Cols) (ms : Int) (x : Beg) (nodes res : List Nd) : Prop :=
  CtrM Try.prog 115 165 (gC c ms) [.own 173 2 (nodes.map eM)] [gV true true x] (fun sv cells' rw' => sv = (.v (.int .i64 nodes.length)) ∧ cells' = gC c ms ∧ rw' = [.own 173 2 (res.map eM)])
theorem growStep (c : Cols) (ms : Int) (hc : ColOk c) (rec : Beg → List Nd → List Nd) (B : Nat) (hp : ∀ y t, t <+: rec y t) (hl : ∀ y t, (rec y t).length ≤ t.length + B) (x : Beg) (m : Nat) (h : BegOk c x m) (hm : m ≤ 6) (nodes : List Nd)
    (hN : nodes.length + (1 + 6 * B) ≤ 1000000) (hr : ∀ i : Nat, i < c.minutes.length → memB (i : Int) x.order = false → ∀ t : List Nd, t.length + B ≤ 1000000 → GrowS c ms (withE c x (i : Int)) t (rec (withE c x (i : Int)) t)) : GrowS c ms x nodes (grF c ms rec x nodes) := by
  unfold GrowS
  have encs := And.intro (And.intro (And.intro encs gV_eq) gC_eq) sxMut
  have hlo := h.lo
  have hle := h.le
  have hn := hc.n
  refine CtrM.of (rs := [.tmp 4]) Tok Try.func115 rfl rfl rfl rfl (by simp [ofDL]) (by first | exact noFrz0 | exact noFrz1 _ _ _) (fun w0 kp ρ σ μ np nsz => ?_)
  simp only [↓sxD, ↓sxP0, ↓sxP3, ↓sxGd, sxP1, sxF, sxA, sxS, sxK, sxG, sxZ, sxH, sxU, encs, tys, sxN, sevalprocAttr, ne_eq, decide_true, decide_false]
  repeat ((with_reducible refine Vc.go ?_ fun _ => ?_); (focus (first | omega | (simp only [InK]; omega) | (simp [InK]; done) | (simp [InK]; omega))); simp only [↓sxD, ↓sxP0, ↓sxP3, ↓sxGd, sxP1, sxF, sxA, sxS, sxK, sxG, sxZ, sxH, sxU, encs, tys, sxN, sevalprocAttr, ne_eq, decide_true, decide_false])
  refine BrW.of (fun hb => ?_) (fun hb => ?_)
  · simp only [↓sxD, ↓sxP0, ↓sxP3, ↓sxGd, sxP1, sxF, sxA, sxS, sxK, sxG, sxZ, sxH, sxU, encs, tys, sxN, sevalprocAttr, ne_eq, decide_true, decide_false]
    repeat ((with_reducible refine Vc.go ?_ fun _ => ?_); (focus (first | omega | (simp only [InK]; omega) | (simp [InK]; done) | (simp [InK]; omega))); simp only [↓sxD, ↓sxP0, ↓sxP3, ↓sxGd, sxP1, sxF, sxA, sxS, sxK, sxG, sxZ, sxH, sxU, encs, tys, sxN, sevalprocAttr, ne_eq, decide_true, decide_false])
    refine EndM.r [some 2] (.v (.int .i64 nodes.length)) (gC c ms) [.own 173 2 ((nodes ++ [(⟨1, none⟩ : Nd)]).map eM)] ?_ (by simp) (by simp only [sxS, sxL, sxF, sxG, sxH, sxU, encs, kpLL_map, List.map_cons, List.map_nil, sxN, sevalprocAttr, ne_eq, decide_true, decide_false] <;> simp [modN, modE, eM_eqs, kpL, kpD, kpO]) (by simp only [sxS, sxL, sxF, sxG, sxH, sxU, encs, kpLL_map, List.map_cons, List.map_nil, sxN, sevalprocAttr, ne_eq, decide_true, decide_false] <;> simp [modN, modE, eM_eqs, kpL, kpD, kpO]) (by simp only [sxS, sxL, sxF, sxG, sxH, sxU, encs, kpLL_map, List.map_cons, List.map_nil, sxN, sevalprocAttr, ne_eq, decide_true, decide_false] <;> simp [modN, modE, eM_eqs, kpL, kpD, kpO]) (by simp only [sxS, sxL, sxF, sxG, sxH, sxU, encs, kpLL_map, List.map_cons, List.map_nil, sxN, sevalprocAttr, ne_eq, decide_true, decide_false] <;> simp [modN, modE, eM_eqs, kpL, kpD, kpO]) (by simp only [sxS, sxL, sxF, sxG, sxH, sxU, encs, kpLL_map, List.map_cons, List.map_nil, sxN, sevalprocAttr, ne_eq, decide_true, decide_false] <;> simp [modN, modE, eM_eqs, kpL, kpD, kpO]) (by simp only [sxS, sxL, sxF, sxG, sxH, sxU, encs, kpLL_map, List.map_cons, List.map_nil, sxN, sevalprocAttr, ne_eq, decide_true, decide_false] <;> simp [modN, modE, eM_eqs, kpL, kpD, kpO])
    exact ⟨rfl, rfl, by rw [grF, if_pos hb]⟩
  · simp only [↓sxD, ↓sxP0, ↓sxP3, ↓sxGd, sxP1, sxF, sxA, sxS, sxK, sxG, sxZ, sxH, sxU, encs, tys, sxN, sevalprocAttr, ne_eq, decide_true, decide_false]
    have hb' : ¬ x.barred = true := by rw [hb]; decide
    refine DrawW.plan Tok mixed (.q 0 <| .q 1 <| .q 2 <| .q 3 <| .q 4 <| .q 6 <| .q 7 <| .q 8 <| .q 9 <| .e 5 [9] <| .q 10 <| .q 11 <| .done) (by kernel_rfl) (by kernel_rfl) ?_
    simp only [↓sxD, ↓sxP0, ↓sxP3, ↓sxGd, sxP1, sxF, sxA, sxS, sxK, sxG, sxZ, sxH, sxU, encs, tys, sxN, sevalprocAttr, ne_eq, decide_true, decide_false]
    refine CallI.fn (least_s true true true true true c x m hc h (by omega)) (by simp only [sxA, sxL, sxF, sxG, sxH, sxU, encs, sxN, sevalprocAttr, ne_eq, decide_true, decide_false] <;> (try simp) <;> (try rfl)) ?_
    simp only [↓sxD, ↓sxP0, ↓sxP3, ↓sxGd, sxP1, sxF, sxA, sxS, sxK, sxG, sxZ, sxH, sxU, encs, tys, sxN, sevalprocAttr, ne_eq, decide_true, decide_false]
    refine BrW.dec (fun h2 => ?_) (fun h2 => ?_)
    · simp only [↓sxD, ↓sxP0, ↓sxP3, ↓sxGd, sxP1, sxF, sxA, sxS, sxK, sxG, sxZ, sxH, sxU, encs, tys, sxN, sevalprocAttr, ne_eq, decide_true, decide_false]
      repeat ((with_reducible refine Vc.go ?_ fun _ => ?_); (focus (first | omega | (simp only [InK]; omega) | (simp [InK]; done) | (simp [InK]; omega))); simp only [↓sxD, ↓sxP0, ↓sxP3, ↓sxGd, sxP1, sxF, sxA, sxS, sxK, sxG, sxZ, sxH, sxU, encs, tys, sxN, sevalprocAttr, ne_eq, decide_true, decide_false])
      refine EndM.r [some 2] (.v (.int .i64 nodes.length)) (gC c ms) [.own 173 2 ((nodes ++ [(⟨2, none⟩ : Nd)]).map eM)] ?_ (by simp) (by simp only [sxS, sxL, sxF, sxG, sxH, sxU, encs, kpLL_map, List.map_cons, List.map_nil, sxN, sevalprocAttr, ne_eq, decide_true, decide_false] <;> simp [modN, modE, eM_eqs, kpL, kpD, kpO]) (by simp only [sxS, sxL, sxF, sxG, sxH, sxU, encs, kpLL_map, List.map_cons, List.map_nil, sxN, sevalprocAttr, ne_eq, decide_true, decide_false] <;> simp [modN, modE, eM_eqs, kpL, kpD, kpO]) (by simp only [sxS, sxL, sxF, sxG, sxH, sxU, encs, kpLL_map, List.map_cons, List.map_nil, sxN, sevalprocAttr, ne_eq, decide_true, decide_false] <;> simp [modN, modE, eM_eqs, kpL, kpD, kpO]) (by simp only [sxS, sxL, sxF, sxG, sxH, sxU, encs, kpLL_map, List.map_cons, List.map_nil, sxN, sevalprocAttr, ne_eq, decide_true, decide_false] <;> simp [modN, modE, eM_eqs, kpL, kpD, kpO]) (by simp only [sxS, sxL, sxF, sxG, sxH, sxU, encs, kpLL_map, List.map_cons, List.map_nil, sxN, sevalprocAttr, ne_eq, decide_true, decide_false] <;> simp [modN, modE, eM_eqs, kpL, kpD, kpO]) (by simp only [sxS, sxL, sxF, sxG, sxH, sxU, encs, kpLL_map, List.map_cons, List.map_nil, sxN, sevalprocAttr, ne_eq, decide_true, decide_false] <;> simp [modN, modE, eM_eqs, kpL, kpD, kpO])
      exact ⟨rfl, rfl, by rw [grF, if_neg hb', if_pos (by omega)]⟩
    · simp only [↓sxD, ↓sxP0, ↓sxP3, ↓sxGd, sxP1, sxF, sxA, sxS, sxK, sxG, sxZ, sxH, sxU, encs, tys, sxN, sevalprocAttr, ne_eq, decide_true, decide_false]
      have h2' : ¬ ms ≤ leastE c x := by omega
      refine LoopW.comp [0, 3, 5, 6, 60, 61] (by simp only [sxS, sxL, sxF, sxG, sxH, sxU, encs, sxN, sevalprocAttr, ne_eq, decide_true, decide_false] <;> (try simp) <;> (try omega)) ?_
      simp only [sxS, sxF, sxG, sxH, sxU, sxN, sevalprocAttr, ne_eq, decide_true, decide_false]
      refine LoopW.up Tok (fun k : Nat => [(6, .row 1), (61, (.v (.int .i64 k)))]) (fun k => [(0, [.sl true 1 (c.minutes.map eI), .sl true 1 (c.dry.map (eIB true)), (.v (.int .i64 ms)), .row 0])]) (fun k => [(0, (grK c rec x nodes k).1.map eM)]) (fun k => [.own 3 1 ((grK c rec x nodes k).2.map eI)]) (fun k => k ≤ c.minutes.length) (fun k => c.minutes.length - k) (0) (by simp only [sxS, sxL, sxF, sxG, sxH, sxU, encs, sxN, sevalprocAttr, ne_eq, decide_true, decide_false] <;> (try simp [grK, eM_eqs, encs]) <;> (try omega)) ?_ ?_
      · omega
      rintro k hk
      simp only [↓sxD, ↓sxP0, ↓sxP3, ↓sxGd, sxP1, sxF, sxA, sxS, sxK, sxG, sxZ, sxH, sxU, encs, tys, sxN, sevalprocAttr, ne_eq, decide_true, decide_false]
      refine BrW.dec (fun hlt => ?_) (fun hlt => ?_)
      · simp only [↓sxD, ↓sxP0, ↓sxP3, ↓sxGd, sxP1, sxF, sxA, sxS, sxK, sxG, sxZ, sxH, sxU, encs, tys, sxN, sevalprocAttr, ne_eq, decide_true, decide_false]
        have hlt : k < c.minutes.length := by omega
        have hgl := grK_len hl x nodes k (c := c)
        have hkB : k * B ≤ 5 * B := Nat.mul_le_mul_right _ (by omega)
        refine CallI.fn (containsI_s true x.order k (by omega)) (by simp only [sxA, sxL, sxF, sxG, sxH, sxU, encs, sxN, sevalprocAttr, ne_eq, decide_true, decide_false] <;> (try simp) <;> (try rfl)) ?_
        simp only [↓sxD, ↓sxP0, ↓sxP3, ↓sxGd, sxP1, sxF, sxA, sxS, sxK, sxG, sxZ, sxH, sxU, encs, tys, sxN, sevalprocAttr, ne_eq, decide_true, decide_false]
        refine BrW.of (fun hin => ?_) (fun hin => ?_)
        · simp only [↓sxD, ↓sxP0, ↓sxP3, ↓sxGd, sxP1, sxF, sxA, sxS, sxK, sxG, sxZ, sxH, sxU, encs, tys, sxN, sevalprocAttr, ne_eq, decide_true, decide_false]
          have he : grK c rec x nodes (k + 1) = grK c rec x nodes k := by simp only [grK, hin, if_true]
          repeat ((with_reducible refine Vc.go ?_ fun _ => ?_); (focus (first | omega | (simp only [InK]; omega) | (simp [InK]; done) | (simp [InK]; omega))); simp only [↓sxD, ↓sxP0, ↓sxP3, ↓sxGd, sxP1, sxF, sxA, sxS, sxK, sxG, sxZ, sxH, sxU, encs, tys, sxN, sevalprocAttr, ne_eq, decide_true, decide_false])
          refine ⟨k + 1, StLe.auto (by simp only [sxS, sxL, sxF, sxG, sxH, sxU, encs, sxN, sevalprocAttr, ne_eq, decide_true, decide_false] <;> (try simp [he, encs]) <;> (try omega)), ?_, ?_⟩
          · omega
          · omega
        · simp only [↓sxD, ↓sxP0, ↓sxP3, ↓sxGd, sxP1, sxF, sxA, sxS, sxK, sxG, sxZ, sxH, sxU, encs, tys, sxN, sevalprocAttr, ne_eq, decide_true, decide_false]
          have he : grK c rec x nodes (k + 1) = (rec (withE c x (k : Int)) (grK c rec x nodes k).1, (grK c rec x nodes k).2 ++ [((grK c rec x nodes k).1.length : Int)]) := by simp only [grK, hin]; simp
          refine DrawW.plan Tok mixed (.q 0 <| .q 1 <| .q 2 <| .q 3 <| .q 4 <| .q 5 <| .q 6 <| .q 7 <| .e 8 [] <| .e 9 [] <| .e 10 [] <| .e 11 [] <| .q 12 <| .done) (by kernel_rfl) (by kernel_rfl) ?_
          simp only [↓sxD, ↓sxP0, ↓sxP3, ↓sxGd, sxP1, sxF, sxA, sxS, sxK, sxG, sxZ, sxH, sxU, encs, tys, sxN, sevalprocAttr, ne_eq, decide_true, decide_false]
          refine CallI.fn (with_s true true true true true c x m k hc h (by omega) (by omega)) (by simp only [sxA, sxL, sxF, sxG, sxH, sxU, encs, sxN, sevalprocAttr, ne_eq, decide_true, decide_false] <;> (try simp) <;> (try rfl)) ?_
          simp only [↓sxD, ↓sxP0, ↓sxP3, ↓sxGd, sxP1, sxF, sxA, sxS, sxK, sxG, sxZ, sxH, sxU, encs, tys, sxN, sevalprocAttr, ne_eq, decide_true, decide_false]
          have hg := hr k hlt hin (grK c rec x nodes k).1 (by omega)
          unfold GrowS at hg
          refine CallI.ctrM (k := 0) (γ := [some 0]) (hg) rfl (by simp only [sxS, sxL, sxF, sxG, sxH, sxU, encs, List.map_cons, List.map_nil, sxN, sevalprocAttr, ne_eq, decide_true, decide_false] <;> (try simp)) (by simp) (by simp only [sxS, sxL, sxF, sxG, sxH, sxU, encs, List.map_cons, List.map_nil, sxN, sevalprocAttr, ne_eq, decide_true, decide_false] <;> (try simp)) (by simp only [sxS, sxL, sxF, sxG, sxH, sxU, encs, List.map_cons, List.map_nil, sxN, sevalprocAttr, ne_eq, decide_true, decide_false] <;> (try simp)) (noGhB_spec rfl) ?_
          rintro _ _ _ ⟨rfl, rfl, rfl⟩
          simp only [↓sxD, ↓sxP0, ↓sxP3, ↓sxGd, sxP1, sxF, sxA, sxS, sxK, sxG, sxZ, sxH, sxU, encs, tys, sxN, sevalprocAttr, ne_eq, decide_true, decide_false]
          repeat ((with_reducible refine Vc.go ?_ fun _ => ?_); (focus (first | omega | (simp only [InK]; omega) | (simp [InK]; done) | (simp [InK]; omega))); simp only [↓sxD, ↓sxP0, ↓sxP3, ↓sxGd, sxP1, sxF, sxA, sxS, sxK, sxG, sxZ, sxH, sxU, encs, tys, sxN, sevalprocAttr, ne_eq, decide_true, decide_false])
          refine ⟨k + 1, StLe.auto (by simp only [sxS, sxL, sxF, sxG, sxH, sxU, encs, sxN, sevalprocAttr, ne_eq, decide_true, decide_false] <;> (try simp [he, encs]) <;> (try omega)), ?_, ?_⟩
          · omega
          · omega
      · simp only [↓sxD, ↓sxP0, ↓sxP3, ↓sxGd, sxP1, sxF, sxA, sxS, sxK, sxG, sxZ, sxH, sxU, encs, tys, sxN, sevalprocAttr, ne_eq, decide_true, decide_false]
        have hke : k = c.minutes.length := by omega
        have hgl := grK_len hl x nodes k (c := c)
        have hgp := grK_pre hp x nodes k (c := c)
        have hF : grF c ms rec x nodes = (grK c rec x nodes k).1.set nodes.length ⟨0, some (grK c rec x nodes k).2⟩ := by rw [grF, if_neg hb', if_neg h2', hke]
        obtain ⟨t, ht⟩ := hgp
        generalize hL : (grK c rec x nodes k).1 = L at *
        generalize hR : (grK c rec x nodes k).2 = R at *
        subst ht
        rw [setNd] at hF
        have hlen : (nodes ++ [(⟨0, none⟩ : Nd)] ++ t).length = nodes.length + 1 + t.length := by simp; omega
        repeat ((with_reducible refine Vc.go ?_ fun _ => ?_); (focus (first | omega | (simp only [InK]; omega) | (simp [InK]; done) | (simp [InK]; omega))); simp only [↓sxD, ↓sxP0, ↓sxP3, ↓sxGd, sxP1, sxF, sxA, sxS, sxK, sxG, sxZ, sxH, sxU, encs, tys, sxN, sevalprocAttr, ne_eq, decide_true, decide_false])
        refine EndM.r [some 0] (.v (.int .i64 nodes.length)) (gC c ms) [.own 173 2 ((nodes ++ (⟨0, some R⟩ : Nd) :: t).map eM)] ?_ (by simp) (by simp only [sxS, sxL, sxF, sxG, sxH, sxU, encs, kpLL_map, List.map_cons, List.map_nil, sxN, sevalprocAttr, ne_eq, decide_true, decide_false] <;> simp [modP, modE, eM_eqs, kpL, kpD, kpO, kpLL_map]) (by simp only [sxS, sxL, sxF, sxG, sxH, sxU, encs, kpLL_map, List.map_cons, List.map_nil, sxN, sevalprocAttr, ne_eq, decide_true, decide_false] <;> simp [modP, modE, eM_eqs, kpL, kpD, kpO, kpLL_map]) (by simp only [sxS, sxL, sxF, sxG, sxH, sxU, encs, kpLL_map, List.map_cons, List.map_nil, sxN, sevalprocAttr, ne_eq, decide_true, decide_false] <;> simp [modP, modE, eM_eqs, kpL, kpD, kpO, kpLL_map]) (by simp only [sxS, sxL, sxF, sxG, sxH, sxU, encs, kpLL_map, List.map_cons, List.map_nil, sxN, sevalprocAttr, ne_eq, decide_true, decide_false] <;> simp [modP, modE, eM_eqs, kpL, kpD, kpO, kpLL_map]) (by simp only [sxS, sxL, sxF, sxG, sxH, sxU, encs, kpLL_map, List.map_cons, List.map_nil, sxN, sevalprocAttr, ne_eq, decide_true, decide_false] <;> simp [modP, modE, eM_eqs, kpL, kpD, kpO, kpLL_map]) (by simp only [sxS, sxL, sxF, sxG, sxH, sxU, encs, kpLL_map, List.map_cons, List.map_nil, sxN, sevalprocAttr, ne_eq, decide_true, decide_false] <;> simp [modP, modE, eM_eqs, kpL, kpD, kpO, kpLL_map])
        exact ⟨rfl, rfl, by rw [hF]⟩
theorem nodup_full {n : Nat} {l : List Int} (hd : l.Nodup) (hl : l.length = n) (hb : ∀ o ∈ l, 0 ≤ o ∧ o < (n : Int)) {i : Nat} (hi : i < n) : (i : Int) ∈ l := by
  refine Classical.byContradiction fun hn => ?_
  have h1 : ((i : Int) :: l).Nodup := List.nodup_cons.2 ⟨hn, hd⟩
  have h2 : ∀ o ∈ (i : Int) :: l, o ∈ (List.range n).map (fun k : Nat => (k : Int)) := fun o ho => by
    rw [List.mem_map]
    rcases List.mem_cons.1 ho with rfl | ho
    · exact ⟨i, List.mem_range.2 hi, rfl⟩
    · have := hb o ho
      exact ⟨o.toNat, List.mem_range.2 (by omega), by omega⟩
  have h3 := List.Nodup.length_le_of_subset h1 h2
  simp at h3; omega
theorem grow_s (c : Cols) (ms : Int) (hc : ColOk c) : ∀ (f : Nat) (x : Beg) (m : Nat) (nodes : List Nd), BegOk c x m → m + f = c.minutes.length → x.order.Nodup → nodes.length + nB f ≤ 1000000 → GrowS c ms x nodes (growE c ms f x nodes)
  | 0, x, m, nodes, h, hm, hd, hN => by
    have hn := hc.n
    refine growStep c ms hc _ 0 (fun _ _ => List.prefix_rfl) (fun _ _ => Nat.le_refl _) x m h (by omega) nodes (by simp only [nB] at hN; omega) fun i hi hin => ?_
    rw [memB_not] at hin
    exact absurd (nodup_full hd (by rw [h.lo]; omega) h.o hi) hin
  | f + 1, x, m, nodes, h, hm, hd, hN => by
    have hn := hc.n
    refine growStep c ms hc _ (nB f) (growE_pre c ms f) (growE_len hn ms f) x m h (by omega) nodes (by simp only [nB] at hN; omega) fun i hi hin t ht => ?_
    rw [memB_not] at hin
    refine grow_s c ms hc f _ (m + 1) t (with_ok hc h (by omega)) (by omega) ?_ ht
    simp only [withE, List.nodup_append, List.nodup_cons, List.not_mem_nil, not_false_eq_true, List.nodup_nil, and_self, true_and, List.mem_singleton]
    exact ⟨hd, fun a ha b hb e => hin (by rw [← hb, ← e]; exact ha)⟩
end Go.Proofs.Ytaagelngbbkllaa
