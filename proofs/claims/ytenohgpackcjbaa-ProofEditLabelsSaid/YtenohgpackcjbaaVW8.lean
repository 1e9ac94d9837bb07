/-
  Chapter 8, walks: a word that comes in.
-/
import Derived.Test.YtenohgpackcjbaaVW7
import Derived.Test.YtenohgpackcjbaaVW6
import Derived.Test.YtenohgpackcjbaaVW4
namespace Go.Proofs.Ytenohgpackcjbaa
open Go Go.Vx
set_option linter.unusedSimpArgs false
set_option linter.unusedVariables false
set_option maxRecDepth 20000
def insP (p : Pt) (k : Nat) (t : ByteArray) : Pt := ⟨p.kind, p.words.take k ++ t :: p.words.drop k⟩
theorem elsA_get {l : List Pt} {i : Nat} (hi : i < l.length) (u : Value) : (elsA l i u)[i]? = some [.v (.int .i64 l[i].kind), .v u] := by
  unfold elsA
  have hgd : l.getD i ⟨0, []⟩ = l[i] := by simp [List.getD_eq_getElem?_getD, hi]
  rw [hgd, List.getElem?_set_self (by simpa using hi)]
theorem elsA_put {l : List Pt} {i : Nat} (hi : i < l.length) (u : Value) (p : Pt) (hk : p.kind = l[i].kind) : ((elsA l i u).modify i fun x => modE x 1 [.sl true 1 (p.words.map eS)]) = (l.set i p).map (eP true) := by
  apply List.ext_getElem?
  intro k
  rw [List.getElem?_modify]
  by_cases h : i = k
  · subst h
    rw [elsA_get hi]
    simp [modE, eP, hk, hi]
  · unfold elsA
    simp [h]
theorem elsA_len (l : List Pt) (i : Nat) (u : Value) : (elsA l i u).length = l.length := by simp [elsA]
theorem mapE : (∀ k v, upE k v [] = [[.v k, .v v]]) ∧ (∀ key val k v l, upE key val ([.v k, .v v] :: l) = if kEq key k = true then [.v key, .v val] :: l else [.v k, .v v] :: upE key val l) ∧ (∀ a b, kEq (.int .i64 a) (.int .i64 b) = decide (a = b)) ∧ (entsOk (some .i64) [] = true) ∧
    (∀ k v l, entsOk (some .i64) ([.v (.int .i64 k), .v v] :: l) = entsOk (some .i64) l) ∧ (∀ key, lkE key [] = none) ∧ (∀ key k v l, lkE key ([.v k, .v v] :: l) = if kEq key k = true then some v else lkE key l) ∧ (∀ z v, lkV false z (some v) = .v v) ∧ (∀ z, lkV false z none = .v z) ∧ (∀ v z : Value, (some v).getD z = v) ∧ (∀ z : Value, (none : Option Value).getD z = z) := by
  refine ⟨fun _ _ => rfl, fun _ _ _ _ _ => rfl, fun a b => ?_, rfl, fun k v l => ?_, fun _ => rfl, fun _ _ _ _ => rfl, fun _ _ => rfl, fun _ => rfl, fun _ _ => rfl, fun _ => rfl⟩
  · rw [Bool.eq_iff_iff]; simp [kEq]
  · simp [entsOk, entOk, keyIs]
set_option maxHeartbeats 8000000 in
theorem appliedIn_s (b b2 : Bool) (l : List Pt) (m : Mk) (i k : Nat) (hm : m.mark = 2) (hp : m.part = i) (hw : m.word = k) (hl : l.length ≤ 1000) (hi : i < l.length) (hws : ∀ p ∈ l, p.words.length ≤ 1000) (hk : k < l[i].words.length)
    (he : (partsErr (l.set i (insP l[i] k m.new))).2 = 0) : Ctr Try.prog 58 [.sl b 2 (l.map (eP b2)), mV m] (fun rr => rr = ⟨.tup [.sl true 2 ((l.set i (insP l[i] k m.new)).map (eP true)), (.v (.int .i64 0))], []⟩) := by
  have hwi : l[i].words.length ≤ 1000 := hws _ (List.getElem_mem hi)
  have encs := And.intro encs mapE
  refine Ctr.of (rs := [.tmp 4, .tmp 5]) Tok true Try.func58 rfl rfl rfl rfl (by simp [ofDL]) (fun w0 kp => ?_)
  simp only [↓sx0, sx1, encs, tys, sxR, sevalprocAttr]
  rw [hm, hp, hw]
  refine DrawW.plan Tok mixed (.q 0 <| .q 2 <| .e 1 [2] <| .e 3 [] <| .q 4 <| .q 5 <| .q 6 <| .q 7 <| .q 8 <| .done) (by kernel_rfl) (by kernel_rfl) ?_
  simp only [↓sx0, sx1, encs, tys, sxR, sevalprocAttr]
  refine CallI.ctrA (clone_s b b2 l i hl hi hws (by omega)) (by simp only [sx3, encs, sxR, sevalprocAttr] <;> (try simp) <;> (try rfl)) ?_
  rintro _ _ _ ⟨rfl, ⟨ad, n0, c0, rfl⟩, rfl⟩
  simp only [↓sx0, sx1, encs, tys, sxR, sevalprocAttr]
  refine CallI.inlG (rs := [.tmp 4, .tmp 5]) Tok (fun h => by first | cases h; done | rfl) Try.func97 rfl rfl rfl rfl (by simp) (fun ρ σ μ fr lp => ?_) (by refine ⟨_, ?_, rfl⟩; rfl)
  simp only [↓sx0, sx1, encs, tys, sxR, sevalprocAttr]
  have hel := elsA_len l i (.slice (some ad) n0 c0)
  have hge := elsA_get hi (.slice (some ad) n0 c0)
  refine BrW.no (by omega) ?_
  simp only [↓sx0, sx1, encs, tys, sxR, sevalprocAttr]
  repeat ((with_reducible refine Vc.go ?_ fun _ => ?_); (focus (first | omega | (simp only [InK]; omega) | (simp [InK]; done) | (simp [InK]; omega))); simp only [↓sx0, sx1, encs, tys, sxR, sevalprocAttr])
  refine DrawW.plan Tok mixed (.q 0 <| .q 1 <| .q 2 <| .q 3 <| .q 4 <| .q 5 <| .q 6 <| .q 7 <| .q 8 <| .done) (by kernel_rfl) (by kernel_rfl) ?_
  simp only [↓sx0, sx1, encs, tys, sxR, sevalprocAttr]
  refine ⟨by omega, _, (by rw [Int.toNat_natCast]; exact hge), ?_⟩
  simp only [↓sx0, sx1, encs, tys, sxR, sevalprocAttr]
  repeat ((with_reducible refine Vc.go ?_ fun _ => ?_); (focus (first | omega | (simp only [InK]; omega) | (simp [InK]; done) | (simp [InK]; omega))); simp only [↓sx0, sx1, encs, tys, sxR, sevalprocAttr])
  refine BrW.no (by omega) ?_
  simp only [↓sx0, sx1, encs, tys, sxR, sevalprocAttr]
  refine DrawW.plan Tok mixed (.q 0 <| .q 1 <| .q 2 <| .q 3 <| .q 4 <| .q 5 <| .q 6 <| .q 7 <| .e 8 [4] <| .e 9 [] <| .q 10 <| .q 11 <| .e 12 [] <| .done) (by kernel_rfl) (by kernel_rfl) ?_
  simp only [↓sx0, sx1, encs, tys, sxR, sevalprocAttr]
  refine ⟨by omega, _, (by rw [Int.toNat_natCast]; exact hge), ?_⟩
  simp only [↓sx0, sx1, encs, tys, sxR, sevalprocAttr]
  refine CallI.turn2 (r := 1) (k := 3) (x := .int .i64 (k : Int)) (e := 9) (s := 1) (e2 := 9) (s2 := 1) rfl rfl (by decide) (by decide) (insert_s l[i].words k m.new hk (by omega)) ?_
  simp only [↓sx0, sx1, encs, tys, sxR, sevalprocAttr]
  repeat ((with_reducible refine Vc.go ?_ fun _ => ?_); (focus (first | omega | (simp only [InK]; omega) | (simp [InK]; done) | (simp [InK]; omega))); simp only [↓sx0, sx1, encs, tys, sxR, sevalprocAttr])
  rw [Int.toNat_natCast, show (l[i].words.take k ++ m.new :: l[i].words.drop k) = (insP l[i] k m.new).words from rfl, elsA_put hi (.slice (some ad) n0 c0) (insP l[i] k m.new) rfl]
  refine CallI.fn (checkCopy_s false true (l.set i (insP l[i] k m.new))) (by simp only [sx3, encs, sxR, sevalprocAttr] <;> (try simp) <;> (try rfl)) ?_
  simp only [↓sx0, sx1, encs, tys, sxR, sevalprocAttr]
  refine BrW.no (by simp [he]) ?_
  simp only [↓sx0, sx1, encs, tys, sxR, sevalprocAttr]
  have hkp := kpP (l.set i (insP l[i] k m.new))
  exact EndW.fn (by simp only [sx4, encs, kpLL_map, sxR, sevalprocAttr] <;> (try simp [hkp]) <;> (try omega)) (by simp only [sx4, encs, kpLL_map, sxR, sevalprocAttr] <;> (try simp) <;> (try omega))
theorem AppliedIn_s (b b2 : Bool) (l : List Pt) (m : Mk) (i k : Nat) (hm : m.mark = 2) (hp : m.part = i) (hw : m.word = k) (hl : l.length ≤ 1000) (hi : i < l.length) (hws : ∀ p ∈ l, p.words.length ≤ 1000) (hk : k < l[i].words.length) (hz : MkSz m)
    (h0 : (partsErr l).2 = 0) (h1 : mkErr m = 0) (he : (partsErr (l.set i (insP l[i] k m.new))).2 = 0) : Ctr Try.prog 18 [.sl b 2 (l.map (eP b2)), mV m] (fun rr => rr = ⟨.tup [.sl true 2 ((l.set i (insP l[i] k m.new)).map (eP true)), (.v (.int .i64 0))], []⟩) := by
  refine Ctr.of (rs := [.tmp 4, .tmp 5]) Tok true Try.func18 rfl rfl rfl rfl (by simp [ofDL]) (fun w0 kp => ?_)
  simp only [↓sx0, sx1, encs, tys, sxR, sevalprocAttr]
  refine CallI.fn (checkCopy_s b b2 l) (by simp only [sx3, encs, sxR, sevalprocAttr] <;> (try simp) <;> (try rfl)) ?_
  simp only [↓sx0, sx1, encs, tys, sxR, sevalprocAttr]
  refine BrW.no (by simp [h0]) ?_
  simp only [↓sx0, sx1, encs, tys, sxR, sevalprocAttr]
  refine CallI.fn (checkMark_s m hz) (by simp only [sx3, encs, sxR, sevalprocAttr] <;> (try simp) <;> (try rfl)) ?_
  simp only [↓sx0, sx1, encs, tys, sxR, sevalprocAttr]
  refine BrW.no (by simp [h1]) ?_
  simp only [↓sx0, sx1, encs, tys, sxR, sevalprocAttr]
  refine CallI.fn (appliedIn_s b b2 l m i k hm hp hw hl hi hws hk he) (by simp only [sx3, encs, sxR, sevalprocAttr] <;> (try simp) <;> (try rfl)) ?_
  simp only [↓sx0, sx1, encs, tys, sxR, sevalprocAttr]
  have hkp := kpP (l.set i (insP l[i] k m.new))
  exact EndW.fn (by simp only [sx4, encs, kpLL_map, sxR, sevalprocAttr] <;> (try simp [hkp]) <;> (try omega)) (by simp only [sx4, encs, kpLL_map, sxR, sevalprocAttr] <;> (try simp) <;> (try omega))
end Go.Proofs.Ytenohgpackcjbaa
