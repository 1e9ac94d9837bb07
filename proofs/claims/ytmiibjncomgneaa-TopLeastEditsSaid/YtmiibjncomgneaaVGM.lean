/-
 Chapter 8, walks: marks are applied, where all rows are closed again.
-/
import Derived.Test.YtmiibjncomgneaaVGB
import Derived.Test.YtmiibjncomgneaaVGE
import Derived.Test.YtmiibjncomgneaaVInsR
import Derived.Test.YtmiibjncomgneaaVGD
namespace Go.Proofs.Ytmiibjncomgneaa
open Go Go.Vx
set_option linter.unusedSimpArgs false
set_option linter.unusedVariables false
set_option maxRecDepth 20000
set_option maxHeartbeats 4000000 in
theorem cloneP_s (b b2 : Bool) (l : List Pt) (hl : l.length ≤ 1000) (hw : ∀ p ∈ l, p.words.length ≤ 1000) :
  Ctr Try.prog 22 [.sl b 2 (l.map (eP b2))] (fun rr => rr = ⟨.row 0, [.own 27 2 (l.map (eP true))]⟩) := by
 refine Ctr.of (rs := [.tmp 2]) Tok false Try.func22 rfl rfl rfl rfl (by simp [ofDL]) (fun w0 kp => ?_)
 simp only [↓sx0, sxE, encs, sevalprocAttr]
 have wl : ∀ k (h : k < l.length), (l[k].words.map eS).length ≤ 1000000 := fun k h => by have := hw _ (List.getElem_mem h); simp; omega
 refine LoopW.inv Tok (fun k : Nat => ⟨[(3, .row 0), (8, (.v (.int .i64 k))), (6, .sl b 2 (l.map (eP b2))), (7, (.v (.int .i64 l.length)))], [], [.own 27 2 ((l.take k).map (eP true))]⟩) (fun k => k ≤ l.length) (fun k => l.length - k) 0 (StLe.auto ?_) (Nat.zero_le _) ?_
 ·simp only [List.take_zero, List.map_nil]
  simp only [sx2, encs, sxR, sevalprocAttr] <;> (try simp) <;> (try omega)
 rintro k hk
 simp only [↓sx0, sxE, encs, sevalprocAttr]
 refine BrW.dec (fun hlt => ?_) (fun hlt => ?_)
 ·simp only [↓sx0, sxE, encs, sevalprocAttr]
  have hkl : k < l.length := by omega
  refine IxW.nat hkl ?_
  simp only [↓sx0, sxE, encs, sevalprocAttr]
  refine DrawW.plan Tok mixed (.q 0 <| .q 1 <| .q 2 <| .q 3 <| .q 4 <| .e 5 [2] <| .q 6 <| .e 7 [] <| .e 8 [] <| .q 9 <| .done) (by kernel_rfl) (by kernel_rfl) ?_
  simp only [↓sx0, sxE, encs, sevalprocAttr]
  refine CallI.ctr (cloneS_s b2 _ (kpS l[k].words) (wl k hkl)) (by simp only [sx3, encs, sxR, sevalprocAttr] <;> (try simp) <;> (try rfl)) ?_
  rintro _ rfl
  simp only [↓sx0, sxE, encs, sevalprocAttr]
  repeat ((with_reducible refine Vc.go ?_ fun _ => ?_); (focus (first | omega | (simp only [InK]; omega) | (simp [InK]; done) | (simp [InK]; omega))); simp only [↓sx0, sxE, encs, sevalprocAttr])
  have hf : (l.take k).map (eP true) ++ [eP true l[k]] = (l.take (k + 1)).map (eP true) := by rw [List.take_succ_eq_append_getElem hkl, List.map_append]; rfl
  refine ⟨k + 1, StLe.auto ?_, by omega, by omega⟩
  simp only [← hf]
  simp only [sx2, encs, sxR, sevalprocAttr] <;> (try simp) <;> (try omega)
 ·simp only [↓sx0, sxE, encs, sevalprocAttr]
  have hke : k = l.length := by omega
  subst hke
  rw [List.take_length]
  have hkp := kpP l
  exact EndW.r [some 0] (by simp) (by simp only [sx4, sxF, encs, kpLL_map, sxR, sevalprocAttr] <;> simp [hkp]) (by simp only [sx4, sxF, encs, kpLL_map, sxR, sevalprocAttr] <;> simp [hkp]) (by simp only [sx4, sxF, encs, kpLL_map, sxR, sevalprocAttr] <;> simp [hkp]) (by simp only [sx4, sxF, encs, kpLL_map, sxR, sevalprocAttr] <;> simp [hkp])
/-- what stands in the place of a part. -/
def apL (l : List Pt) (m : Mk) (i k : Nat) (p : Pt) : List Pt :=
 if m.mark = 1 then l.set i ⟨p.kind, p.words.take k ++ p.words.drop (k + 1)⟩
 else if m.mark = 2 then l.set i (insP p k m.new)
 else if m.mark = 3 then l.set i ⟨p.kind, p.words.set k m.new⟩
 else if m.mark = 4 then l.set i ⟨p.kind, (p.words.set k (p.words.getD (k + 1) em)).set (k + 1) (p.words.getD k em)⟩
 else if m.mark = 5 then l.take i ++ ⟨p.kind, p.words.take k⟩ :: ⟨m.kind, p.words.drop k⟩ :: l.drop (i + 1)
 else if m.mark = 6 then l.take i ++ ⟨p.kind, p.words ++ (l.getD (i + 1) ⟨0, []⟩).words⟩ :: l.drop (i + 2)
 else l.set i ⟨m.kind, p.words⟩
def chk (l : List Pt) : List Pt × Int := if (partsErr l).2 = 0 then (l, 0) else ([], (partsErr l).2)
/-- applied, by the kinds of marks. -/
def apV (l : List Pt) (m : Mk) : List Pt × Int :=
 match l[m.part.toNat]? with
 | none => ([], 6)
 | some p =>
  let n : Int := p.words.length
  if (if m.mark = 2 then n else if m.mark = 4 then n - 2 else if m.mark = 6 then 100 else if m.mark = 7 then 0 else n - 1) < m.word ∨ (m.mark = 6 ∧ m.part = l.length - 1) then ([], 6)
  else if ((m.mark = 1 ∨ m.mark = 3) ∧ p.words.getD m.word.toNat em ≠ m.old) ∨ (m.mark = 6 ∧ (n ≠ m.word ∨ (l.getD (m.part.toNat + 1) ⟨0, []⟩).kind ≠ m.kind)) ∨ (m.mark = 7 ∧ p.kind ≠ m.was) then ([], 13)
  else chk (apL l m m.part.toNat m.word.toNat p)
theorem apV_at {l : List Pt} (m : Mk) {i : Nat} (hp : m.part = i) (hi : i < l.length) : apV l m =
  if (if m.mark = 2 then (l[i].words.length : Int) else if m.mark = 4 then (l[i].words.length : Int) - 2 else if m.mark = 6 then 100 else if m.mark = 7 then 0 else (l[i].words.length : Int) - 1) < m.word ∨ (m.mark = 6 ∧ m.part = l.length - 1) then ([], 6)
  else if ((m.mark = 1 ∨ m.mark = 3) ∧ l[i].words.getD m.word.toNat em ≠ m.old) ∨ (m.mark = 6 ∧ ((l[i].words.length : Int) ≠ m.word ∨ (l.getD (i + 1) ⟨0, []⟩).kind ≠ m.kind)) ∨ (m.mark = 7 ∧ l[i].kind ≠ m.was) then ([], 13)
  else chk (apL l m i m.word.toNat l[i]) := by
 rw [apV, hp, Int.toNat_natCast, List.getElem?_eq_getElem hi]
theorem elP_kind {l : List Pt} {i : Nat} (hi : i < l.length) (k : Int) : ((l.map (eP true)).modify (i : Int).toNat fun x => modE x 0 [.v (.int .i64 k)]) = (l.set i ⟨k, l[i].words⟩).map (eP true) := by
 rw [Int.toNat_natCast]
 apply List.ext_getElem?
 intro j
 rw [List.getElem?_modify]
 by_cases h : i = j
 ·subst h
  simp [modE, eP, hi]
 ·simp [h]
set_option maxHeartbeats 8000000 in
theorem appliedTurn_s (b b2 : Bool) (l : List Pt) (m : Mk) (i k : Nat) (hm : m.mark = 7) (hp : m.part = i) (hw : m.word = k) (hl : l.length ≤ 1000) (hws : ∀ p ∈ l, p.words.length ≤ 1000) :
  Ctr Try.prog 23 [.sl b 2 (l.map (eP b2)), mV m] (fun rr => rr = ⟨.tup [.sl true 2 ((apV l m).1.map (eP true)), (.v (.int .i64 ((apV l m).2)))], []⟩) := by
 have encs := And.intro encs mapE
 refine Ctr.of (rs := [.tmp 4, .tmp 5]) Tok true Try.func23 rfl rfl rfl rfl (by simp [ofDL]) (fun w0 kp => ?_)
 simp only [↓sx0, sxE, encs, sevalprocAttr]
 rw [hm, hp, hw]
 refine DrawW.plan Tok mixed (.q 0 <| .q 2 <| .e 1 [2] <| .e 3 [] <| .q 4 <| .q 5 <| .q 6 <| .q 7 <| .q 8 <| .done) (by kernel_rfl) (by kernel_rfl) ?_
 simp only [↓sx0, sxE, encs, sevalprocAttr]
 refine CallI.ctr (cloneP_s b b2 l hl hws) (by simp only [sx3, encs, sxR, sevalprocAttr] <;> (try simp) <;> (try rfl)) ?_
 rintro _ rfl
 simp only [↓sx0, sxE, encs, sevalprocAttr]
 refine CallI.inlG (rs := [.tmp 4, .tmp 5]) Tok (fun h => by first | cases h; done | rfl) Try.func39 rfl rfl rfl rfl (by simp) (fun ρ σ μ fr lp => ?_) (by refine ⟨_, ?_, rfl⟩; rfl)
 simp only [↓sx0, sxE, encs, sevalprocAttr]
 refine BrW.dec (fun hlt => ?_) (fun hlt => ?_)
 ·simp only [↓sx0, sxE, encs, sevalprocAttr]
  have hv : apV l m = ([], 6) := by
   rw [apV, hp, Int.toNat_natCast, List.getElem?_eq_none (by omega)]
  refine EndW.fn ?_ ?_ <;> simp only [sx4, encs, kpLL_map, sxR, sevalprocAttr] <;> (try simp [hv]) <;> (try omega)
 ·simp only [↓sx0, sxE, encs, sevalprocAttr]
  have hi : i < l.length := by omega
  have hwi : l[i].words.length ≤ 1000 := hws _ (List.getElem_mem hi)
  have hv0 := apV_at m hp hi
  have hge : (l.map (eP true))[(i : Int).toNat]? = some (eP true l[i]) := by rw [Int.toNat_natCast]; simp [hi]
  repeat ((with_reducible refine Vc.go ?_ fun _ => ?_); (focus (first | omega | (simp only [InK]; omega) | (simp [InK]; done) | (simp [InK]; omega))); simp only [↓sx0, sxE, encs, sevalprocAttr])
  refine DrawW.plan Tok mixed (.q 0 <| .q 1 <| .q 2 <| .q 3 <| .q 4 <| .q 5 <| .q 6 <| .q 7 <| .q 8 <| .done) (by kernel_rfl) (by kernel_rfl) ?_
  simp only [↓sx0, sxE, encs, sevalprocAttr]
  refine ⟨by omega, _, hge, ?_⟩
  simp only [↓sx0, sxE, encs, sevalprocAttr]
  repeat ((with_reducible refine Vc.go ?_ fun _ => ?_); (focus (first | omega | (simp only [InK]; omega) | (simp [InK]; done) | (simp [InK]; omega))); simp only [↓sx0, sxE, encs, sevalprocAttr])
  refine BrW.dec (fun h1 => ?_) (fun h1 => ?_)
  ·simp only [↓sx0, sxE, encs, sevalprocAttr]
   have hv : apV l m = ([], 6) := by
    rw [hv0, if_pos (.inl (by rw [hm, hw]; simpa using h1))]
   refine EndW.fn ?_ ?_ <;> simp only [sx4, encs, kpLL_map, sxR, sevalprocAttr] <;> (try simp [hv]) <;> (try omega)
  ·simp only [↓sx0, sxE, encs, sevalprocAttr]
   rw [if_neg (show ¬ _ by rw [hm, hw]; rintro (h | ⟨h, -⟩) <;> simp at h <;> omega)] at hv0
   refine DrawW.plan Tok mixed (.q 0 <| .q 1 <| .q 2 <| .q 3 <| .q 4 <| .q 5 <| .q 6 <| .q 7 <| .done) (by kernel_rfl) (by kernel_rfl) ?_
   simp only [↓sx0, sxE, encs, sevalprocAttr]
   refine ⟨by omega, _, hge, ?_⟩
   simp only [↓sx0, sxE, encs, sevalprocAttr]
   repeat ((with_reducible refine Vc.go ?_ fun _ => ?_); (focus (first | omega | (simp only [InK]; omega) | (simp [InK]; done) | (simp [InK]; omega))); simp only [↓sx0, sxE, encs, sevalprocAttr])
   refine BrW.dec (fun h2 => ?_) (fun h2 => ?_)
   ·simp only [↓sx0, sxE, encs, sevalprocAttr]
    have hv : apV l m = ([], 13) := by
     rw [hv0, if_pos (.inr (.inr ⟨hm, by simpa using h2⟩))]
    refine EndW.fn ?_ ?_ <;> simp only [sx4, encs, kpLL_map, sxR, sevalprocAttr] <;> (try simp [hv]) <;> (try omega)
   ·simp only [↓sx0, sxE, encs, sevalprocAttr]
    repeat ((with_reducible refine Vc.go ?_ fun _ => ?_); (focus (first | omega | (simp only [InK]; omega) | (simp [InK]; done) | (simp [InK]; omega))); simp only [↓sx0, sxE, encs, sevalprocAttr])
    rw [if_neg (show ¬ _ by rw [hm]; rintro (⟨h | h, -⟩ | ⟨h, -⟩ | ⟨-, h⟩) <;> first | omega | exact absurd h (by simpa using h2)), show apL l m i m.word.toNat l[i] = l.set i ⟨m.kind, l[i].words⟩ by simp [apL, hm]] at hv0
    have hrw : ((l.map (eP true)).modify (i : Int).toNat fun x => modE x 0 [.v (.int .i64 m.kind)]) = (l.set i ⟨m.kind, l[i].words⟩).map (eP true) := elP_kind hi m.kind
    rw [hrw]
    refine CallI.fn (checkCopy_s false true (l.set i ⟨m.kind, l[i].words⟩)) (by simp only [sx3, encs, sxR, sevalprocAttr] <;> (try simp) <;> (try rfl)) ?_
    simp only [↓sx0, sxE, encs, sevalprocAttr]
    have hkp := kpP (l.set i ⟨m.kind, l[i].words⟩)
    refine BrW.dec (fun h3 => ?_) (fun h3 => ?_)
    ·simp only [↓sx0, sxE, encs, sevalprocAttr]
     have hv : apV l m = ([], (partsErr (l.set i ⟨m.kind, l[i].words⟩)).2) := by rw [hv0, chk, if_neg (by simpa using h3)]
     refine EndW.fn ?_ ?_ <;> simp only [sx4, encs, kpLL_map, sxR, sevalprocAttr] <;> (try simp [hv]) <;> (try omega)
    ·simp only [↓sx0, sxE, encs, sevalprocAttr]
     have hv : apV l m = (l.set i ⟨m.kind, l[i].words⟩, 0) := by rw [hv0, chk, if_pos (by simpa using h3)]
     refine EndW.fn ?_ ?_ <;> simp only [sx4, encs, kpLL_map, sxR, sevalprocAttr] <;> (try simp [hv, hkp]) <;> (try omega)
end Go.Proofs.Ytmiibjncomgneaa
/-
 Chapter 8, walks: marks that join parts are applied.
-/
namespace Go.Proofs.Ytmiibjncomgneaa
open Go Go.Vx
set_option linter.unusedSimpArgs false
set_option linter.unusedVariables false
set_option maxRecDepth 20000
def joL (l : List Pt) (i : Nat) (hi : i < l.length) (hj : i + 1 < l.length) : List Pt := l.take i ++ ⟨l[i].kind, l[i].words ++ l[i + 1].words⟩ :: l.drop (i + 2)
theorem elP_words {l : List Pt} {i : Nat} (hi : i < l.length) (ws : List ByteArray) : ((l.map (eP true)).modify (i : Int).toNat fun x => modE x 1 [.sl true 1 (ws.map eS)]) = (l.set i ⟨l[i].kind, ws⟩).map (eP true) := by
 rw [Int.toNat_natCast]
 apply List.ext_getElem?
 intro j
 rw [List.getElem?_modify]
 by_cases h : i = j
 ·subst h
  simp [modE, eP, hi]
 ·simp [h]
theorem elP_join {l : List Pt} {i : Nat} (hi : i < l.length) (hj : i + 1 < l.length) : (((l.set i ⟨l[i].kind, l[i].words ++ l[i + 1].words⟩).map (eP true)).take (i + 1) ++ ((l.set i ⟨l[i].kind, l[i].words ++ l[i + 1].words⟩).map (eP true)).drop (i + 2)) = (joL l i hi hj).map (eP true) := by
 rw [← List.map_take, ← List.map_drop, ← List.map_append]
 congr 1
 rw [joL, List.take_succ_eq_append_getElem (by simpa using hi), List.drop_set, if_pos (by omega)]
 simp [List.take_set_of_le]
set_option maxHeartbeats 8000000 in
theorem appliedJoin_s (b b2 : Bool) (l : List Pt) (m : Mk) (i k : Nat) (hm : m.mark = 6) (hp : m.part = i) (hw : m.word = k) (hl : l.length ≤ 1000) (hws : ∀ p ∈ l, p.words.length ≤ 1000) :
  Ctr Try.prog 23 [.sl b 2 (l.map (eP b2)), mV m] (fun rr => rr = ⟨.tup [.sl true 2 ((apV l m).1.map (eP true)), (.v (.int .i64 ((apV l m).2)))], []⟩) := by
 have encs := And.intro (And.intro encs mapE) (show ∀ p, eSL p = [.sl p.1 1 (p.2.map eS)] from fun _ => rfl)
 refine Ctr.of (rs := [.tmp 4, .tmp 5]) Tok true Try.func23 rfl rfl rfl rfl (by simp [ofDL]) (fun w0 kp => ?_)
 simp only [↓sx0, sxE, encs, sevalprocAttr]
 rw [hm, hp, hw]
 refine DrawW.plan Tok mixed (.q 0 <| .q 2 <| .e 1 [2] <| .e 3 [] <| .q 4 <| .q 5 <| .q 6 <| .q 7 <| .q 8 <| .done) (by kernel_rfl) (by kernel_rfl) ?_
 simp only [↓sx0, sxE, encs, sevalprocAttr]
 refine CallI.ctr (cloneP_s b b2 l hl hws) (by simp only [sx3, encs, sxR, sevalprocAttr] <;> (try simp) <;> (try rfl)) ?_
 rintro _ rfl
 simp only [↓sx0, sxE, encs, sevalprocAttr]
 refine CallI.inlG (rs := [.tmp 4, .tmp 5]) Tok (fun h => by first | cases h; done | rfl) Try.func39 rfl rfl rfl rfl (by simp) (fun ρ σ μ fr lp => ?_) (by refine ⟨_, ?_, rfl⟩; rfl)
 simp only [↓sx0, sxE, encs, sevalprocAttr]
 refine BrW.dec (fun hlt => ?_) (fun hlt => ?_)
 ·simp only [↓sx0, sxE, encs, sevalprocAttr]
  have hv : apV l m = ([], 6) := by
   rw [apV, hp, Int.toNat_natCast, List.getElem?_eq_none (by omega)]
  refine EndW.fn ?_ ?_ <;> simp only [sx4, encs, kpLL_map, sxR, sevalprocAttr] <;> (try simp [hv]) <;> (try omega)
 ·simp only [↓sx0, sxE, encs, sevalprocAttr]
  have hi : i < l.length := by omega
  have hwi : l[i].words.length ≤ 1000 := hws _ (List.getElem_mem hi)
  have hv0 := apV_at m hp hi
  have hge : (l.map (eP true))[(i : Int).toNat]? = some (eP true l[i]) := by rw [Int.toNat_natCast]; simp [hi]
  repeat ((with_reducible refine Vc.go ?_ fun _ => ?_); (focus (first | omega | (simp only [InK]; omega) | (simp [InK]; done) | (simp [InK]; omega))); simp only [↓sx0, sxE, encs, sevalprocAttr])
  refine DrawW.plan Tok mixed (.q 0 <| .q 1 <| .q 2 <| .q 3 <| .q 4 <| .q 5 <| .q 6 <| .q 7 <| .q 8 <| .done) (by kernel_rfl) (by kernel_rfl) ?_
  simp only [↓sx0, sxE, encs, sevalprocAttr]
  refine ⟨by omega, _, hge, ?_⟩
  simp only [↓sx0, sxE, encs, sevalprocAttr]
  repeat ((with_reducible refine Vc.go ?_ fun _ => ?_); (focus (first | omega | (simp only [InK]; omega) | (simp [InK]; done) | (simp [InK]; omega))); simp only [↓sx0, sxE, encs, sevalprocAttr])
  refine BrW.dec (fun h1 => ?_) (fun h1 => ?_)
  ·simp only [↓sx0, sxE, encs, sevalprocAttr]
   have hv : apV l m = ([], 6) := by
    rw [hv0, if_pos (.inl (by rw [hm, hw]; simpa using h1))]
   refine EndW.fn ?_ ?_ <;> simp only [sx4, encs, kpLL_map, sxR, sevalprocAttr] <;> (try simp [hv]) <;> (try omega)
  ·simp only [↓sx0, sxE, encs, sevalprocAttr]
   repeat ((with_reducible refine Vc.go ?_ fun _ => ?_); (focus (first | omega | (simp only [InK]; omega) | (simp [InK]; done) | (simp [InK]; omega))); simp only [↓sx0, sxE, encs, sevalprocAttr])
   refine BrW.dec (fun h2 => ?_) (fun h2 => ?_)
   ·simp only [↓sx0, sxE, encs, sevalprocAttr]
    have hv : apV l m = ([], 6) := by
     rw [hv0, if_pos (.inr ⟨hm, by rw [hp]; simpa using h2⟩)]
    refine EndW.fn ?_ ?_ <;> simp only [sx4, encs, kpLL_map, sxR, sevalprocAttr] <;> (try simp [hv]) <;> (try omega)
   ·simp only [↓sx0, sxE, encs, sevalprocAttr]
    rw [if_neg (show ¬ _ by rw [hm, hw, hp]; rintro (h | ⟨-, h⟩) <;> first | omega | (simp at h; omega))] at hv0
    have hj : i + 1 < l.length := by omega
    have hgj : (l.map (eP true))[(((i : Int)) + 1).toNat]? = some (eP true l[i + 1]) := by rw [show ((i : Int) + 1).toNat = i + 1 by omega]; simp [hj]
    refine DrawW.plan Tok mixed (.q 0 <| .q 1 <| .q 2 <| .q 3 <| .q 4 <| .q 5 <| .q 6 <| .q 7 <| .q 8 <| .q 9 <| .q 10 <| .q 11 <| .q 12 <| .q 13 <| .q 14 <| .q 15 <| .done) (by kernel_rfl) (by kernel_rfl) ?_
    simp only [↓sx0, sxE, encs, sevalprocAttr]
    refine BrW.dec (fun h3 => ?_) (fun h3 => ?_)
    ·simp only [↓sx0, sxE, encs, sevalprocAttr]
     have hv : apV l m = ([], 13) := by
      rw [hv0, if_pos (.inr (.inl ⟨hm, .inl (by rw [hw]; simpa using h3)⟩))]
     refine EndW.fn ?_ ?_ <;> simp only [sx4, encs, kpLL_map, sxR, sevalprocAttr] <;> (try simp [hv]) <;> (try omega)
    ·simp only [↓sx0, sxE, encs, sevalprocAttr]
     repeat ((with_reducible refine Vc.go ?_ fun _ => ?_); (focus (first | omega | (simp only [InK]; omega) | (simp [InK]; done) | (simp [InK]; omega))); simp only [↓sx0, sxE, encs, sevalprocAttr])
     refine ⟨by omega, _, hgj, ?_⟩
     simp only [↓sx0, sxE, encs, sevalprocAttr]
     repeat ((with_reducible refine Vc.go ?_ fun _ => ?_); (focus (first | omega | (simp only [InK]; omega) | (simp [InK]; done) | (simp [InK]; omega))); simp only [↓sx0, sxE, encs, sevalprocAttr])
     refine BrW.dec (fun h4 => ?_) (fun h4 => ?_)
     ·simp only [↓sx0, sxE, encs, sevalprocAttr]
      have hv : apV l m = ([], 13) := by
       rw [hv0, if_pos (.inr (.inl ⟨hm, .inr (by simpa [hj] using h4)⟩))]
      refine EndW.fn ?_ ?_ <;> simp only [sx4, encs, kpLL_map, sxR, sevalprocAttr] <;> (try simp [hv]) <;> (try omega)
     ·simp only [↓sx0, sxE, encs, sevalprocAttr]
      rw [if_neg (show ¬ _ by rw [hm, hw]; rintro (⟨h | h, -⟩ | ⟨-, h | h⟩ | ⟨h, -⟩) <;> first | omega | exact absurd h (by simpa using h3) | exact absurd h (by simpa [hj] using h4)), show apL l m i m.word.toNat l[i] = joL l i hi hj by simp [apL, hm, joL, hj]] at hv0
      refine DrawW.plan Tok mixed (.q 0 <| .q 1 <| .q 2 <| .q 3 <| .q 4 <| .q 5 <| .q 6 <| .q 7 <| .q 8 <| .q 9 <| .q 10 <| .q 11 <| .e 12 [] <| .e 13 [] <| .q 14 <| .q 15 <| .e 16 [] <| .done) (by kernel_rfl) (by kernel_rfl) ?_
      simp only [↓sx0, sxE, encs, sevalprocAttr]
      refine ⟨by omega, _, hge, ?_⟩
      simp only [↓sx0, sxE, encs, sevalprocAttr]
      repeat ((with_reducible refine Vc.go ?_ fun _ => ?_); (focus (first | omega | (simp only [InK]; omega) | (simp [InK]; done) | (simp [InK]; omega))); simp only [↓sx0, sxE, encs, sevalprocAttr])
      refine ⟨by omega, _, hgj, ?_⟩
      simp only [↓sx0, sxE, encs, sevalprocAttr]
      have hwj : l[i + 1].words.length ≤ 1000 := hws _ (List.getElem_mem hj)
      have hcat : cat [(true, l[i].words), (true, l[i + 1].words)] = l[i].words ++ l[i + 1].words := by simp [cat]
      refine CallI.ctr (concat_s false [(true, l[i].words), (true, l[i + 1].words)] (by simp) (by rw [hcat, List.length_append]; omega)) (by simp only [sx3, encs, sxR, sevalprocAttr] <;> (try simp) <;> (try rfl)) ?_
      rintro _ rfl
      rw [hcat]
      simp only [↓sx0, sxE, encs, sevalprocAttr]
      repeat ((with_reducible refine Vc.go ?_ fun _ => ?_); (focus (first | omega | (simp only [InK]; omega) | (simp [InK]; done) | (simp [InK]; omega))); simp only [↓sx0, sxE, encs, sevalprocAttr])
      rw [show ((i : Int) + 1) = ((i + 1 : Nat) : Int) by omega, show ((i : Int) + 2) = ((i + 2 : Nat) : Int) by omega]
      have hje := elP_words hi (l[i].words ++ l[i + 1].words)
      refine CallI.turnD (r := 0) (e := 27) (s := 2) rfl (deleteP_s _ (i + 1) (i + 2) (by omega) (by simp; omega) (by simp; omega)) ?_
      rw [hje, elP_join hi hj]
      simp only [↓sx0, sxE, encs, sevalprocAttr]
      refine CallI.fn (checkCopy_s false true (joL l i hi hj)) (by simp only [sx3, encs, sxR, sevalprocAttr] <;> (try simp) <;> (try rfl)) ?_
      simp only [↓sx0, sxE, encs, sevalprocAttr]
      have hkp := kpP (joL l i hi hj)
      refine BrW.dec (fun h5 => ?_) (fun h5 => ?_)
      ·simp only [↓sx0, sxE, encs, sevalprocAttr]
       have hv : apV l m = ([], (partsErr (joL l i hi hj)).2) := by rw [hv0, chk, if_neg (by simpa using h5)]
       refine EndW.fn ?_ ?_ <;> simp only [sx4, encs, kpLL_map, sxR, sevalprocAttr] <;> (try simp [hv]) <;> (try omega)
      ·simp only [↓sx0, sxE, encs, sevalprocAttr]
       have hv : apV l m = (joL l i hi hj, 0) := by rw [hv0, chk, if_pos (by simpa using h5)]
       refine EndW.fn ?_ ?_ <;> simp only [sx4, encs, kpLL_map, sxR, sevalprocAttr] <;> (try simp [hv, hkp]) <;> (try omega)
end Go.Proofs.Ytmiibjncomgneaa
/-
 Chapter 8, walks: marks that break parts are applied.
-/
namespace Go.Proofs.Ytmiibjncomgneaa
open Go Go.Vx
set_option linter.unusedSimpArgs false
set_option linter.unusedVariables false
set_option maxRecDepth 20000
def brL (l : List Pt) (m : Mk) (i k : Nat) (hi : i < l.length) : List Pt := l.take i ++ ⟨l[i].kind, l[i].words.take k⟩ :: ⟨m.kind, l[i].words.drop k⟩ :: l.drop (i + 1)
theorem elP_break {l : List Pt} (m : Mk) {i k : Nat} (hi : i < l.length) : (((l.set i ⟨l[i].kind, l[i].words.take k⟩).map (eP true)).take (i + 1) ++ [.v (.int .i64 m.kind), .sl true 1 ((l[i].words.drop k).map eS)] :: ((l.set i ⟨l[i].kind, l[i].words.take k⟩).map (eP true)).drop (i + 1)) = (brL l m i k hi).map (eP true) := by
 rw [← List.map_take, ← List.map_drop, show ([.v (.int .i64 m.kind), .sl true 1 ((l[i].words.drop k).map eS)] : List D) = eP true ⟨m.kind, l[i].words.drop k⟩ from rfl, ← List.map_cons, ← List.map_append]
 congr 1
 rw [brL, List.take_succ_eq_append_getElem (by simpa using hi), List.drop_set, if_pos (by omega)]
 simp [List.take_set_of_le]
set_option maxHeartbeats 8000000 in
theorem appliedBreak_s (b b2 : Bool) (l : List Pt) (m : Mk) (i k : Nat) (hm : m.mark = 5) (hp : m.part = i) (hw : m.word = k) (hl : l.length ≤ 1000) (hws : ∀ p ∈ l, p.words.length ≤ 1000) :
  Ctr Try.prog 23 [.sl b 2 (l.map (eP b2)), mV m] (fun rr => rr = ⟨.tup [.sl true 2 ((apV l m).1.map (eP true)), (.v (.int .i64 ((apV l m).2)))], []⟩) := by
 have encs := And.intro (And.intro encs mapE) (show ∀ p, eSL p = [.sl p.1 1 (p.2.map eS)] from fun _ => rfl)
 refine Ctr.of (rs := [.tmp 4, .tmp 5]) Tok true Try.func23 rfl rfl rfl rfl (by simp [ofDL]) (fun w0 kp => ?_)
 simp only [↓sx0, sxE, encs, sevalprocAttr]
 rw [hm, hp, hw]
 refine DrawW.plan Tok mixed (.q 0 <| .q 2 <| .e 1 [2] <| .e 3 [] <| .q 4 <| .q 5 <| .q 6 <| .q 7 <| .q 8 <| .done) (by kernel_rfl) (by kernel_rfl) ?_
 simp only [↓sx0, sxE, encs, sevalprocAttr]
 refine CallI.ctr (cloneP_s b b2 l hl hws) (by simp only [sx3, encs, sxR, sevalprocAttr] <;> (try simp) <;> (try rfl)) ?_
 rintro _ rfl
 simp only [↓sx0, sxE, encs, sevalprocAttr]
 refine CallI.inlG (rs := [.tmp 4, .tmp 5]) Tok (fun h => by first | cases h; done | rfl) Try.func39 rfl rfl rfl rfl (by simp) (fun ρ σ μ fr lp => ?_) (by refine ⟨_, ?_, rfl⟩; rfl)
 simp only [↓sx0, sxE, encs, sevalprocAttr]
 refine BrW.dec (fun hlt => ?_) (fun hlt => ?_)
 ·simp only [↓sx0, sxE, encs, sevalprocAttr]
  have hv : apV l m = ([], 6) := by
   rw [apV, hp, Int.toNat_natCast, List.getElem?_eq_none (by omega)]
  refine EndW.fn ?_ ?_ <;> simp only [sx4, encs, kpLL_map, sxR, sevalprocAttr] <;> (try simp [hv]) <;> (try omega)
 ·simp only [↓sx0, sxE, encs, sevalprocAttr]
  have hi : i < l.length := by omega
  have hwi : l[i].words.length ≤ 1000 := hws _ (List.getElem_mem hi)
  have hv0 := apV_at m hp hi
  have hge : (l.map (eP true))[(i : Int).toNat]? = some (eP true l[i]) := by rw [Int.toNat_natCast]; simp [hi]
  repeat ((with_reducible refine Vc.go ?_ fun _ => ?_); (focus (first | omega | (simp only [InK]; omega) | (simp [InK]; done) | (simp [InK]; omega))); simp only [↓sx0, sxE, encs, sevalprocAttr])
  refine DrawW.plan Tok mixed (.q 0 <| .q 1 <| .q 2 <| .q 3 <| .q 4 <| .q 5 <| .q 6 <| .q 7 <| .q 8 <| .done) (by kernel_rfl) (by kernel_rfl) ?_
  simp only [↓sx0, sxE, encs, sevalprocAttr]
  refine ⟨by omega, _, hge, ?_⟩
  simp only [↓sx0, sxE, encs, sevalprocAttr]
  repeat ((with_reducible refine Vc.go ?_ fun _ => ?_); (focus (first | omega | (simp only [InK]; omega) | (simp [InK]; done) | (simp [InK]; omega))); simp only [↓sx0, sxE, encs, sevalprocAttr])
  refine BrW.dec (fun h1 => ?_) (fun h1 => ?_)
  ·simp only [↓sx0, sxE, encs, sevalprocAttr]
   have hv : apV l m = ([], 6) := by
    rw [hv0, if_pos (.inl (by rw [hm, hw]; simpa using h1))]
   refine EndW.fn ?_ ?_ <;> simp only [sx4, encs, kpLL_map, sxR, sevalprocAttr] <;> (try simp [hv]) <;> (try omega)
  ·simp only [↓sx0, sxE, encs, sevalprocAttr]
   rw [if_neg (show ¬ _ by rw [hm, hw]; rintro (h | ⟨h, -⟩) <;> first | omega | (simp at h; omega)), if_neg (show ¬ _ by rw [hm]; rintro (⟨h | h, -⟩ | ⟨h, -⟩ | ⟨h, -⟩) <;> omega), show apL l m i m.word.toNat l[i] = brL l m i k hi by simp [apL, hm, hw, brL]] at hv0
   have hki : k < l[i].words.length := by omega
   refine DrawW.plan Tok mixed (.q 0 <| .q 1 <| .q 2 <| .q 3 <| .q 4 <| .q 5 <| .q 6 <| .q 7 <| .e2 8 [1] (.q 9 <| .e 10 [1, 5] <| .e 11 [] <| .done) 10 [1, 5] (.e 8 [1] <| .q 9 <| .e 11 [] <| .done)) (by kernel_rfl) (by kernel_rfl) ?_
   simp only [↓sx0, sxE, encs, sevalprocAttr]
   refine ⟨by omega, _, hge, ?_⟩
   simp only [↓sx0, sxE, encs, sevalprocAttr]
   repeat ((with_reducible refine Vc.go ?_ fun _ => ?_); (focus (first | omega | (simp only [InK]; omega) | (simp [InK]; done) | (simp [InK]; omega))); simp only [↓sx0, sxE, encs, sevalprocAttr])
   have hdr : (List.drop (k : Int).toNat (l[i].words.map eS)) = (l[i].words.drop k).map eS := by rw [Int.toNat_natCast, List.map_drop]
   have htk : (List.take (k : Int).toNat (l[i].words.map eS)) = (l[i].words.take k).map eS := by rw [Int.toNat_natCast, List.map_take]
   rw [hdr]
   refine ⟨?_, ?_⟩
   all_goals
    refine CallI.ctr (cloneS_s true _ (kpS (l[i].words.drop k)) (by simp; omega)) (by simp only [sx3, encs, sxR, sevalprocAttr] <;> (try simp) <;> (try rfl)) ?_
    rintro _ rfl
    simp only [↓sx0, sxE, encs, sevalprocAttr]
    repeat ((with_reducible refine Vc.go ?_ fun _ => ?_); (focus (first | omega | (simp only [InK]; omega) | (simp [InK]; done) | (simp [InK]; omega))); simp only [↓sx0, sxE, encs, sevalprocAttr])
    refine ⟨by omega, _, hge, ?_⟩
    simp only [↓sx0, sxE, encs, sevalprocAttr]
    repeat ((with_reducible refine Vc.go ?_ fun _ => ?_); (focus (first | omega | (simp only [InK]; omega) | (simp [InK]; done) | (simp [InK]; omega))); simp only [↓sx0, sxE, encs, sevalprocAttr])
    rw [htk]
    rw [show ((i : Int) + 1) = ((i + 1 : Nat) : Int) by omega]
    have hje := elP_words hi (l[i].words.take k)
    refine CallI.turn2 (r := 0) (k := 3) (e := 27) (s := 2) (e2 := 27) (s2 := 2) rfl rfl (by decide) (by decide) (insertP_s _ _ (i + 1) (by simp; omega) (by simp; omega) (by simp; omega)) ?_
    rw [hje, elP_break m hi]
    simp only [↓sx0, sxE, encs, sevalprocAttr]
    refine CallI.fn (checkCopy_s false true (brL l m i k hi)) (by simp only [sx3, encs, sxR, sevalprocAttr] <;> (try simp) <;> (try rfl)) ?_
    simp only [↓sx0, sxE, encs, sevalprocAttr]
    have hkp := kpP (brL l m i k hi)
    refine BrW.dec (fun h5 => ?_) (fun h5 => ?_)
    ·simp only [↓sx0, sxE, encs, sevalprocAttr]
     have hv : apV l m = ([], (partsErr (brL l m i k hi)).2) := by rw [hv0, chk, if_neg (by simpa using h5)]
     refine EndW.fn ?_ ?_ <;> simp only [sx4, encs, kpLL_map, sxR, sevalprocAttr] <;> (try simp [hv]) <;> (try omega)
    ·simp only [↓sx0, sxE, encs, sevalprocAttr]
     have hv : apV l m = (brL l m i k hi, 0) := by rw [hv0, chk, if_pos (by simpa using h5)]
     refine EndW.fn ?_ ?_ <;> simp only [sx4, encs, kpLL_map, sxR, sevalprocAttr] <;> (try simp [hv, hkp]) <;> (try omega)
end Go.Proofs.Ytmiibjncomgneaa
/-
 Chapter 8, walks: words that go out.
-/
namespace Go.Proofs.Ytmiibjncomgneaa
open Go Go.Vx
set_option linter.unusedSimpArgs false
set_option linter.unusedVariables false
set_option maxRecDepth 20000
set_option maxHeartbeats 4000000 in
theorem appliedMiss_s (b b2 : Bool) (l : List Pt) (m : Mk) (i : Nat) (hp : m.part = i) (hi : ¬ i < l.length) (hl : l.length ≤ 1000) (hws : ∀ p ∈ l, p.words.length ≤ 1000) :
  Ctr Try.prog 23 [.sl b 2 (l.map (eP b2)), mV m] (fun rr => rr = ⟨.tup [.sl true 2 ((apV l m).1.map (eP true)), (.v (.int .i64 ((apV l m).2)))], []⟩) := by
 refine Ctr.of (rs := [.tmp 4, .tmp 5]) Tok true Try.func23 rfl rfl rfl rfl (by simp [ofDL]) (fun w0 kp => ?_)
 simp only [↓sx0, sxE, encs, sevalprocAttr]
 rw [hp]
 refine DrawW.plan Tok mixed (.q 0 <| .q 2 <| .e 1 [2] <| .e 3 [] <| .q 4 <| .q 5 <| .q 6 <| .q 7 <| .q 8 <| .done) (by kernel_rfl) (by kernel_rfl) ?_
 simp only [↓sx0, sxE, encs, sevalprocAttr]
 refine CallI.ctr (cloneP_s b b2 l hl hws) (by simp only [sx3, encs, sxR, sevalprocAttr] <;> (try simp) <;> (try rfl)) ?_
 rintro _ rfl
 simp only [↓sx0, sxE, encs, sevalprocAttr]
 refine CallI.inlG (rs := [.tmp 4, .tmp 5]) Tok (fun h => by first | cases h; done | rfl) Try.func39 rfl rfl rfl rfl (by simp) (fun ρ σ μ fr lp => ?_) (by refine ⟨_, ?_, rfl⟩; rfl)
 simp only [↓sx0, sxE, encs, sevalprocAttr]
 refine BrW.yes (by omega) ?_
 simp only [↓sx0, sxE, encs, sevalprocAttr]
 have hv : apV l m = ([], 6) := by
  rw [apV, hp, Int.toNat_natCast, List.getElem?_eq_none (by omega)]
 refine EndW.fn ?_ ?_ <;> simp only [sx4, encs, kpLL_map, sxR, sevalprocAttr] <;> (try simp [hv]) <;> (try omega)
def outP (p : Pt) (k : Nat) : Pt := ⟨p.kind, p.words.take k ++ p.words.drop (k + 1)⟩
set_option maxHeartbeats 8000000 in
theorem appliedOut_s (b b2 : Bool) (l : List Pt) (m : Mk) (i k : Nat) (hm : m.mark = 1) (hp : m.part = i) (hw : m.word = k) (hl : l.length ≤ 1000) (hws : ∀ p ∈ l, p.words.length ≤ 1000) (hn : ∀ p ∈ l, 0 < p.words.length) (hi : i < l.length) :
  Ctr Try.prog 23 [.sl b 2 (l.map (eP b2)), mV m] (fun rr => rr = ⟨.tup [.sl true 2 ((apV l m).1.map (eP true)), (.v (.int .i64 ((apV l m).2)))], []⟩) := by
 have encs := And.intro encs mapE
 have hwi : l[i].words.length ≤ 1000 := hws _ (List.getElem_mem hi)
 have hni : 0 < l[i].words.length := hn _ (List.getElem_mem hi)
 have hv0 := apV_at m hp hi
 refine Ctr.of (rs := [.tmp 4, .tmp 5]) Tok true Try.func23 rfl rfl rfl rfl (by simp [ofDL]) (fun w0 kp => ?_)
 simp only [↓sx0, sxE, encs, sevalprocAttr]
 rw [hm, hp, hw]
 refine DrawW.plan Tok mixed (.q 0 <| .q 2 <| .e 1 [2] <| .e 3 [] <| .q 4 <| .q 5 <| .q 6 <| .q 7 <| .q 8 <| .done) (by kernel_rfl) (by kernel_rfl) ?_
 simp only [↓sx0, sxE, encs, sevalprocAttr]
 refine CallI.ctrA (clone_s b b2 l i hl hi hws hni) (by simp only [sx3, encs, sxR, sevalprocAttr] <;> (try simp) <;> (try rfl)) ?_
 rintro _ _ _ ⟨rfl, ⟨ad, n0, c0, rfl⟩, rfl⟩
 simp only [↓sx0, sxE, encs, sevalprocAttr]
 refine CallI.inlG (rs := [.tmp 4, .tmp 5]) Tok (fun h => by first | cases h; done | rfl) Try.func39 rfl rfl rfl rfl (by simp) (fun ρ σ μ fr lp => ?_) (by refine ⟨_, ?_, rfl⟩; rfl)
 simp only [↓sx0, sxE, encs, sevalprocAttr]
 have hel := elsA_len l i (.slice (some ad) n0 c0)
 have hge := elsA_get hi (.slice (some ad) n0 c0)
 refine BrW.no (by omega) ?_
 simp only [↓sx0, sxE, encs, sevalprocAttr]
 repeat ((with_reducible refine Vc.go ?_ fun _ => ?_); (focus (first | omega | (simp only [InK]; omega) | (simp [InK]; done) | (simp [InK]; omega))); simp only [↓sx0, sxE, encs, sevalprocAttr])
 refine DrawW.plan Tok mixed (.q 0 <| .q 1 <| .q 2 <| .q 3 <| .q 4 <| .q 5 <| .q 6 <| .q 7 <| .q 8 <| .done) (by kernel_rfl) (by kernel_rfl) ?_
 simp only [↓sx0, sxE, encs, sevalprocAttr]
 refine ⟨by omega, _, (by rw [Int.toNat_natCast]; exact hge), ?_⟩
 simp only [↓sx0, sxE, encs, sevalprocAttr]
 repeat ((with_reducible refine Vc.go ?_ fun _ => ?_); (focus (first | omega | (simp only [InK]; omega) | (simp [InK]; done) | (simp [InK]; omega))); simp only [↓sx0, sxE, encs, sevalprocAttr])
 refine BrW.dec (fun h1 => ?_) (fun h1 => ?_)
 ·simp only [↓sx0, sxE, encs, sevalprocAttr]
  have hv : apV l m = ([], 6) := by
   rw [hv0, if_pos (.inl (by rw [hm, hw]; simp; omega))]
  refine EndW.fn ?_ ?_ <;> simp only [sx4, encs, kpLL_map, sxR, sevalprocAttr] <;> (try simp [hv]) <;> (try omega)
 ·simp only [↓sx0, sxE, encs, sevalprocAttr]
  have hk : k < l[i].words.length := by omega
  rw [if_neg (show ¬ _ by rw [hm, hw]; rintro (h | ⟨h, -⟩) <;> first | omega | (simp at h; omega))] at hv0
  refine DrawW.plan Tok mixed (.q 0 <| .q 1 <| .q 2 <| .q 3 <| .q 4 <| .q 5 <| .q 6 <| .q 7 <| .q 8 <| .q 9 <| .q 10 <| .done) (by kernel_rfl) (by kernel_rfl) ?_
  simp only [↓sx0, sxE, encs, sevalprocAttr]
  refine ⟨by omega, _, (by rw [Int.toNat_natCast]; exact hge), ?_⟩
  simp only [↓sx0, sxE, encs, sevalprocAttr]
  repeat ((with_reducible refine Vc.go ?_ fun _ => ?_); (focus (first | omega | (simp only [InK]; omega) | (simp [InK]; done) | (simp [InK]; omega))); simp only [↓sx0, sxE, encs, sevalprocAttr])
  have hgw : (l[i].words.map eS)[(k : Int).toNat]? = some (eS l[i].words[k]) := by rw [Int.toNat_natCast]; simp [hk]
  refine ⟨by omega, _, hgw, ?_⟩
  simp only [↓sx0, sxE, encs, sevalprocAttr]
  have hgd : l[i].words.getD m.word.toNat em = l[i].words[k] := by rw [hw, Int.toNat_natCast, List.getD_eq_getElem?_getD, List.getElem?_eq_getElem hk]; rfl
  rw [hgd] at hv0
  refine BrW.dec (fun h2 => ?_) (fun h2 => ?_)
  ·simp only [↓sx0, sxE, encs, sevalprocAttr]
   have hv : apV l m = ([], 13) := by
    rw [hv0, if_pos (.inl ⟨.inl hm, by simpa using h2⟩)]
   refine EndW.fn ?_ ?_ <;> simp only [sx4, encs, kpLL_map, sxR, sevalprocAttr] <;> (try simp [hv]) <;> (try omega)
  ·simp only [↓sx0, sxE, encs, sevalprocAttr]
   rw [if_neg (show ¬ _ by rw [hm]; rintro (⟨-, h⟩ | ⟨h, -⟩ | ⟨h, -⟩) <;> first | omega | exact absurd h (by simpa using h2)), show apL l m i m.word.toNat l[i] = l.set i (outP l[i] k) by simp [apL, hm, hw, outP]] at hv0
   refine ⟨by omega, _, (by rw [Int.toNat_natCast]; exact hge), ?_⟩
   simp only [↓sx0, sxE, encs, sevalprocAttr]
   repeat ((with_reducible refine Vc.go ?_ fun _ => ?_); (focus (first | omega | (simp only [InK]; omega) | (simp [InK]; done) | (simp [InK]; omega))); simp only [↓sx0, sxE, encs, sevalprocAttr])
   rw [show ((k : Int) + 1) = ((k + 1 : Nat) : Int) by omega]
   refine CallI.turnD (r := 1) (e := 9) (s := 1) rfl (deleteS_s (l[i].words.map eS) k (k + 1) (by omega) (by simp; omega) (by simp; omega)) ?_
   rw [show (l[i].words.map eS).take k ++ (l[i].words.map eS).drop (k + 1) = (outP l[i] k).words.map eS by simp [outP, List.map_take, List.map_drop]]
   simp only [↓sx0, sxE, encs, sevalprocAttr]
   repeat ((with_reducible refine Vc.go ?_ fun _ => ?_); (focus (first | omega | (simp only [InK]; omega) | (simp [InK]; done) | (simp [InK]; omega))); simp only [↓sx0, sxE, encs, sevalprocAttr])
   rw [Int.toNat_natCast, elsA_put hi (.slice (some ad) n0 c0) (outP l[i] k) rfl]
   refine CallI.fn (checkCopy_s false true (l.set i (outP l[i] k))) (by simp only [sx3, encs, sxR, sevalprocAttr] <;> (try simp) <;> (try rfl)) ?_
   simp only [↓sx0, sxE, encs, sevalprocAttr]
   have hkp := kpP (l.set i (outP l[i] k))
   refine BrW.dec (fun h5 => ?_) (fun h5 => ?_)
   ·simp only [↓sx0, sxE, encs, sevalprocAttr]
    have hv : apV l m = ([], (partsErr (l.set i (outP l[i] k))).2) := by rw [hv0, chk, if_neg (by simpa using h5)]
    refine EndW.fn ?_ ?_ <;> simp only [sx4, encs, kpLL_map, sxR, sevalprocAttr] <;> (try simp [hv]) <;> (try omega)
   ·simp only [↓sx0, sxE, encs, sevalprocAttr]
    have hv : apV l m = (l.set i (outP l[i] k), 0) := by rw [hv0, chk, if_pos (by simpa using h5)]
    refine EndW.fn ?_ ?_ <;> simp only [sx4, encs, kpLL_map, sxR, sevalprocAttr] <;> (try simp [hv, hkp]) <;> (try omega)
end Go.Proofs.Ytmiibjncomgneaa
/-
 Chapter 8, walks: words that come in, all cases.
-/
namespace Go.Proofs.Ytmiibjncomgneaa
open Go Go.Vx
set_option linter.unusedSimpArgs false
set_option linter.unusedVariables false
set_option maxRecDepth 20000
theorem insertA_s (l : List ByteArray) (i : Nat) (t : ByteArray) (hi : i ≤ l.length) (h0 : 0 < l.length) (hl : l.length ≤ 1000000) : Turn2 Try.prog 53 9 1 (l.map eS) (.int .i64 (i : Int)) 9 1 [[.v (.string t)]] ((l.take i ++ t :: l.drop i).map eS) := by
 by_cases h : i < l.length
 ·exact insert_s l i t h hl
 ·have he : i = l.length := by omega
  subst he
  have := insertS_end (l.map eS) [.v (.string t)] (by simpa using h0) (by simpa using hl)
  rw [List.take_length, List.drop_length, List.map_append]
  simpa [eS] using this
set_option maxHeartbeats 8000000 in
theorem appliedInA_s (b b2 : Bool) (l : List Pt) (m : Mk) (i k : Nat) (hm : m.mark = 2) (hp : m.part = i) (hw : m.word = k) (hl : l.length ≤ 1000) (hws : ∀ p ∈ l, p.words.length ≤ 1000) (hn : ∀ p ∈ l, 0 < p.words.length) (hi : i < l.length) :
  Ctr Try.prog 23 [.sl b 2 (l.map (eP b2)), mV m] (fun rr => rr = ⟨.tup [.sl true 2 ((apV l m).1.map (eP true)), (.v (.int .i64 ((apV l m).2)))], []⟩) := by
 have encs := And.intro encs mapE
 have hwi : l[i].words.length ≤ 1000 := hws _ (List.getElem_mem hi)
 have hni : 0 < l[i].words.length := hn _ (List.getElem_mem hi)
 have hv0 := apV_at m hp hi
 refine Ctr.of (rs := [.tmp 4, .tmp 5]) Tok true Try.func23 rfl rfl rfl rfl (by simp [ofDL]) (fun w0 kp => ?_)
 simp only [↓sx0, sxE, encs, sevalprocAttr]
 rw [hm, hp, hw]
 refine DrawW.plan Tok mixed (.q 0 <| .q 2 <| .e 1 [2] <| .e 3 [] <| .q 4 <| .q 5 <| .q 6 <| .q 7 <| .q 8 <| .done) (by kernel_rfl) (by kernel_rfl) ?_
 simp only [↓sx0, sxE, encs, sevalprocAttr]
 refine CallI.ctrA (clone_s b b2 l i hl hi hws hni) (by simp only [sx3, encs, sxR, sevalprocAttr] <;> (try simp) <;> (try rfl)) ?_
 rintro _ _ _ ⟨rfl, ⟨ad, n0, c0, rfl⟩, rfl⟩
 simp only [↓sx0, sxE, encs, sevalprocAttr]
 refine CallI.inlG (rs := [.tmp 4, .tmp 5]) Tok (fun h => by first | cases h; done | rfl) Try.func39 rfl rfl rfl rfl (by simp) (fun ρ σ μ fr lp => ?_) (by refine ⟨_, ?_, rfl⟩; rfl)
 simp only [↓sx0, sxE, encs, sevalprocAttr]
 have hel := elsA_len l i (.slice (some ad) n0 c0)
 have hge := elsA_get hi (.slice (some ad) n0 c0)
 refine BrW.no (by omega) ?_
 simp only [↓sx0, sxE, encs, sevalprocAttr]
 repeat ((with_reducible refine Vc.go ?_ fun _ => ?_); (focus (first | omega | (simp only [InK]; omega) | (simp [InK]; done) | (simp [InK]; omega))); simp only [↓sx0, sxE, encs, sevalprocAttr])
 refine DrawW.plan Tok mixed (.q 0 <| .q 1 <| .q 2 <| .q 3 <| .q 4 <| .q 5 <| .q 6 <| .q 7 <| .q 8 <| .done) (by kernel_rfl) (by kernel_rfl) ?_
 simp only [↓sx0, sxE, encs, sevalprocAttr]
 refine ⟨by omega, _, (by rw [Int.toNat_natCast]; exact hge), ?_⟩
 simp only [↓sx0, sxE, encs, sevalprocAttr]
 repeat ((with_reducible refine Vc.go ?_ fun _ => ?_); (focus (first | omega | (simp only [InK]; omega) | (simp [InK]; done) | (simp [InK]; omega))); simp only [↓sx0, sxE, encs, sevalprocAttr])
 refine BrW.dec (fun h1 => ?_) (fun h1 => ?_)
 ·simp only [↓sx0, sxE, encs, sevalprocAttr]
  have hv : apV l m = ([], 6) := by
   rw [hv0, if_pos (.inl (by rw [hm, hw]; simp; omega))]
  refine EndW.fn ?_ ?_ <;> simp only [sx4, encs, kpLL_map, sxR, sevalprocAttr] <;> (try simp [hv]) <;> (try omega)
 ·simp only [↓sx0, sxE, encs, sevalprocAttr]
  have hk : k ≤ l[i].words.length := by omega
  rw [if_neg (show ¬ _ by rw [hm, hw]; rintro (h | ⟨h, -⟩) <;> first | omega | (simp at h; omega)), if_neg (show ¬ _ by rw [hm]; rintro (⟨h | h, -⟩ | ⟨h, -⟩ | ⟨h, -⟩) <;> omega), show apL l m i m.word.toNat l[i] = l.set i (insP l[i] k m.new) by simp [apL, hm, hw]] at hv0
  refine DrawW.plan Tok mixed (.q 0 <| .q 1 <| .q 2 <| .q 3 <| .q 4 <| .q 5 <| .q 6 <| .q 7 <| .e 8 [4] <| .e 9 [] <| .q 10 <| .q 11 <| .e 12 [] <| .done) (by kernel_rfl) (by kernel_rfl) ?_
  simp only [↓sx0, sxE, encs, sevalprocAttr]
  refine ⟨by omega, _, (by rw [Int.toNat_natCast]; exact hge), ?_⟩
  simp only [↓sx0, sxE, encs, sevalprocAttr]
  refine CallI.turn2 (r := 1) (k := 3) (x := .int .i64 (k : Int)) (e := 9) (s := 1) (e2 := 9) (s2 := 1) rfl rfl (by decide) (by decide) (insertA_s l[i].words k m.new hk hni (by omega)) ?_
  simp only [↓sx0, sxE, encs, sevalprocAttr]
  repeat ((with_reducible refine Vc.go ?_ fun _ => ?_); (focus (first | omega | (simp only [InK]; omega) | (simp [InK]; done) | (simp [InK]; omega))); simp only [↓sx0, sxE, encs, sevalprocAttr])
  rw [Int.toNat_natCast, show (l[i].words.take k ++ m.new :: l[i].words.drop k) = (insP l[i] k m.new).words from rfl, elsA_put hi (.slice (some ad) n0 c0) (insP l[i] k m.new) rfl]
  refine CallI.fn (checkCopy_s false true (l.set i (insP l[i] k m.new))) (by simp only [sx3, encs, sxR, sevalprocAttr] <;> (try simp) <;> (try rfl)) ?_
  simp only [↓sx0, sxE, encs, sevalprocAttr]
  have hkp := kpP (l.set i (insP l[i] k m.new))
  refine BrW.dec (fun h5 => ?_) (fun h5 => ?_)
  ·simp only [↓sx0, sxE, encs, sevalprocAttr]
   have hv : apV l m = ([], (partsErr (l.set i (insP l[i] k m.new))).2) := by rw [hv0, chk, if_neg (by simpa using h5)]
   refine EndW.fn ?_ ?_ <;> simp only [sx4, encs, kpLL_map, sxR, sevalprocAttr] <;> (try simp [hv]) <;> (try omega)
  ·simp only [↓sx0, sxE, encs, sevalprocAttr]
   have hv : apV l m = (l.set i (insP l[i] k m.new), 0) := by rw [hv0, chk, if_pos (by simpa using h5)]
   refine EndW.fn ?_ ?_ <;> simp only [sx4, encs, kpLL_map, sxR, sevalprocAttr] <;> (try simp [hv, hkp]) <;> (try omega)
end Go.Proofs.Ytmiibjncomgneaa
/-
 Chapter 8, walks: words that are changed.
-/
namespace Go.Proofs.Ytmiibjncomgneaa
open Go Go.Vx
set_option linter.unusedSimpArgs false
set_option linter.unusedVariables false
set_option maxRecDepth 20000
def chP (p : Pt) (k : Nat) (t : ByteArray) : Pt := ⟨p.kind, p.words.set k t⟩
theorem elS_put {l : List ByteArray} {k : Nat} (hk : k < l.length) {t : ByteArray} : ((l.map eS).modify (k : Int).toNat fun x => modE x 0 [.v (.string t)]) = (l.set k t).map eS := by
 rw [Int.toNat_natCast]
 apply List.ext_getElem?
 intro j
 rw [List.getElem?_modify]
 by_cases h : k = j
 ·subst h
  simp [modE, eS, hk]
 ·simp [h]
theorem elsA_close {l : List Pt} {i : Nat} (hi : i < l.length) (u : Value) (p : Pt) (hk : p.kind = l[i].kind) : (elsA l i u).set i [.v (.int .i64 l[i].kind), .sl true 1 (p.words.map eS)] = (l.set i p).map (eP true) := by
 unfold elsA
 rw [List.set_set, List.map_set, ← hk]
 rfl
set_option maxHeartbeats 8000000 in
theorem appliedChange_s (b b2 : Bool) (l : List Pt) (m : Mk) (i k : Nat) (hm : m.mark = 3) (hp : m.part = i) (hw : m.word = k) (hl : l.length ≤ 1000) (hws : ∀ p ∈ l, p.words.length ≤ 1000) (hn : ∀ p ∈ l, 0 < p.words.length) (hi : i < l.length) :
  Ctr Try.prog 23 [.sl b 2 (l.map (eP b2)), mV m] (fun rr => rr = ⟨.tup [.sl true 2 ((apV l m).1.map (eP true)), (.v (.int .i64 ((apV l m).2)))], []⟩) := by
 have encs := And.intro encs mapE
 have hwi : l[i].words.length ≤ 1000 := hws _ (List.getElem_mem hi)
 have hni : 0 < l[i].words.length := hn _ (List.getElem_mem hi)
 have hv0 := apV_at m hp hi
 refine Ctr.of (rs := [.tmp 4, .tmp 5]) Tok true Try.func23 rfl rfl rfl rfl (by simp [ofDL]) (fun w0 kp => ?_)
 simp only [↓sx0, sxE, encs, sevalprocAttr]
 rw [hm, hp, hw]
 refine DrawW.plan Tok mixed (.q 0 <| .q 2 <| .e 1 [2] <| .e 3 [] <| .q 4 <| .q 5 <| .q 6 <| .q 7 <| .q 8 <| .done) (by kernel_rfl) (by kernel_rfl) ?_
 simp only [↓sx0, sxE, encs, sevalprocAttr]
 refine CallI.ctrA (clone_s b b2 l i hl hi hws hni) (by simp only [sx3, encs, sxR, sevalprocAttr] <;> (try simp) <;> (try rfl)) ?_
 rintro _ _ _ ⟨rfl, ⟨ad, n0, c0, rfl⟩, rfl⟩
 simp only [↓sx0, sxE, encs, sevalprocAttr]
 refine CallI.inlG (rs := [.tmp 4, .tmp 5]) Tok (fun h => by first | cases h; done | rfl) Try.func39 rfl rfl rfl rfl (by simp) (fun ρ σ μ fr lp => ?_) (by refine ⟨_, ?_, rfl⟩; rfl)
 simp only [↓sx0, sxE, encs, sevalprocAttr]
 have hel := elsA_len l i (.slice (some ad) n0 c0)
 have hge := elsA_get hi (.slice (some ad) n0 c0)
 refine BrW.no (by omega) ?_
 simp only [↓sx0, sxE, encs, sevalprocAttr]
 repeat ((with_reducible refine Vc.go ?_ fun _ => ?_); (focus (first | omega | (simp only [InK]; omega) | (simp [InK]; done) | (simp [InK]; omega))); simp only [↓sx0, sxE, encs, sevalprocAttr])
 refine DrawW.plan Tok mixed (.q 0 <| .q 1 <| .q 2 <| .q 3 <| .q 4 <| .q 5 <| .q 6 <| .q 7 <| .q 8 <| .done) (by kernel_rfl) (by kernel_rfl) ?_
 simp only [↓sx0, sxE, encs, sevalprocAttr]
 refine ⟨by omega, _, (by rw [Int.toNat_natCast]; exact hge), ?_⟩
 simp only [↓sx0, sxE, encs, sevalprocAttr]
 repeat ((with_reducible refine Vc.go ?_ fun _ => ?_); (focus (first | omega | (simp only [InK]; omega) | (simp [InK]; done) | (simp [InK]; omega))); simp only [↓sx0, sxE, encs, sevalprocAttr])
 refine BrW.dec (fun h1 => ?_) (fun h1 => ?_)
 ·simp only [↓sx0, sxE, encs, sevalprocAttr]
  have hv : apV l m = ([], 6) := by
   rw [hv0, if_pos (.inl (by rw [hm, hw]; simp; omega))]
  refine EndW.fn ?_ ?_ <;> simp only [sx4, encs, kpLL_map, sxR, sevalprocAttr] <;> (try simp [hv]) <;> (try omega)
 ·simp only [↓sx0, sxE, encs, sevalprocAttr]
  have hk : k < l[i].words.length := by omega
  rw [if_neg (show ¬ _ by rw [hm, hw]; rintro (h | ⟨h, -⟩) <;> first | omega | (simp at h; omega))] at hv0
  refine DrawW.plan Tok mixed (.q 0 <| .q 1 <| .q 2 <| .q 3 <| .q 4 <| .q 5 <| .q 6 <| .q 7 <| .q 8 <| .q 9 <| .q 10 <| .done) (by kernel_rfl) (by kernel_rfl) ?_
  simp only [↓sx0, sxE, encs, sevalprocAttr]
  refine ⟨by omega, _, (by rw [Int.toNat_natCast]; exact hge), ?_⟩
  simp only [↓sx0, sxE, encs, sevalprocAttr]
  repeat ((with_reducible refine Vc.go ?_ fun _ => ?_); (focus (first | omega | (simp only [InK]; omega) | (simp [InK]; done) | (simp [InK]; omega))); simp only [↓sx0, sxE, encs, sevalprocAttr])
  have hgw : (l[i].words.map eS)[(k : Int).toNat]? = some (eS l[i].words[k]) := by rw [Int.toNat_natCast]; simp [hk]
  refine ⟨by omega, _, hgw, ?_⟩
  simp only [↓sx0, sxE, encs, sevalprocAttr]
  have hgd : l[i].words.getD m.word.toNat em = l[i].words[k] := by rw [hw, Int.toNat_natCast, List.getD_eq_getElem?_getD, List.getElem?_eq_getElem hk]; rfl
  rw [hgd] at hv0
  refine BrW.dec (fun h2 => ?_) (fun h2 => ?_)
  ·simp only [↓sx0, sxE, encs, sevalprocAttr]
   have hv : apV l m = ([], 13) := by
    rw [hv0, if_pos (.inl ⟨.inr hm, by simpa using h2⟩)]
   refine EndW.fn ?_ ?_ <;> simp only [sx4, encs, kpLL_map, sxR, sevalprocAttr] <;> (try simp [hv]) <;> (try omega)
  ·simp only [↓sx0, sxE, encs, sevalprocAttr]
   rw [if_neg (show ¬ _ by rw [hm]; rintro (⟨-, h⟩ | ⟨h, -⟩ | ⟨h, -⟩) <;> first | omega | exact absurd h (by simpa using h2)), show apL l m i m.word.toNat l[i] = l.set i (chP l[i] k m.new) by simp [apL, hm, hw, chP]] at hv0
   refine DrawW.plan Tok mixed (.q 0 <| .q 1 <| .q 2 <| .q 3 <| .q 4 <| .q 5 <| .q 6 <| .q 7 <| .e 8 [] <| .done) (by kernel_rfl) (by kernel_rfl) ?_
   simp only [↓sx0, sxE, encs, sevalprocAttr]
   refine ⟨by omega, _, (by rw [Int.toNat_natCast]; exact hge), ?_⟩
   simp only [↓sx0, sxE, encs, sevalprocAttr]
   repeat ((with_reducible refine Vc.go ?_ fun _ => ?_); (focus (first | omega | (simp only [InK]; omega) | (simp [InK]; done) | (simp [InK]; omega))); simp only [↓sx0, sxE, encs, sevalprocAttr])
   rw [elS_put hk]
   refine CallI.close (k := 1) (s := 1) (ks := (chP l[i] k m.new).words.map eS) (r := 0) (e' := 27) (s' := 2) (els := elsA l i (.slice (some ad) n0 c0)) (i := i) (c := 1) (el := [.v (.int .i64 l[i].kind), .v (.slice (some ad) n0 c0)]) ⟨.slice (some ad) n0 c0, 9, rfl, rfl, by decide, rfl, by decide, by decide, hge, rfl⟩ ?_
   simp only [closeS, setN, List.set_cons_succ, List.set_cons_zero]
   rw [elsA_close hi (.slice (some ad) n0 c0) (chP l[i] k m.new) rfl]
   refine CallI.fn (checkCopy_s false true (l.set i (chP l[i] k m.new))) (by simp only [sx3, encs, sxR, sevalprocAttr] <;> (try simp) <;> (try rfl)) ?_
   simp only [↓sx0, sxE, encs, sevalprocAttr]
   have hkp := kpP (l.set i (chP l[i] k m.new))
   refine BrW.dec (fun h5 => ?_) (fun h5 => ?_)
   ·simp only [↓sx0, sxE, encs, sevalprocAttr]
    have hv : apV l m = ([], (partsErr (l.set i (chP l[i] k m.new))).2) := by rw [hv0, chk, if_neg (by simpa using h5)]
    refine EndW.fn ?_ ?_ <;> simp only [sx4, encs, kpLL_map, sxR, sevalprocAttr] <;> (try simp [hv]) <;> (try omega)
   ·simp only [↓sx0, sxE, encs, sevalprocAttr]
    have hv : apV l m = (l.set i (chP l[i] k m.new), 0) := by rw [hv0, chk, if_pos (by simpa using h5)]
    refine EndW.fn ?_ ?_ <;> simp only [sx4, encs, kpLL_map, sxR, sevalprocAttr] <;> (try simp [hv, hkp]) <;> (try omega)
end Go.Proofs.Ytmiibjncomgneaa
/-
 Chapter 8, walks: words that change places.
-/
namespace Go.Proofs.Ytmiibjncomgneaa
open Go Go.Vx
set_option linter.unusedSimpArgs false
set_option linter.unusedVariables false
set_option maxRecDepth 20000
def swP (p : Pt) (k : Nat) : Pt := ⟨p.kind, (p.words.set k (p.words.getD (k + 1) em)).set (k + 1) (p.words.getD k em)⟩
set_option maxHeartbeats 8000000 in
theorem appliedSwap_s (b b2 : Bool) (l : List Pt) (m : Mk) (i k : Nat) (hm : m.mark = 4) (hp : m.part = i) (hw : m.word = k) (hl : l.length ≤ 1000) (hws : ∀ p ∈ l, p.words.length ≤ 1000) (hn : ∀ p ∈ l, 0 < p.words.length) (hi : i < l.length) :
  Ctr Try.prog 23 [.sl b 2 (l.map (eP b2)), mV m] (fun rr => rr = ⟨.tup [.sl true 2 ((apV l m).1.map (eP true)), (.v (.int .i64 ((apV l m).2)))], []⟩) := by
 have encs := And.intro encs mapE
 have hwi : l[i].words.length ≤ 1000 := hws _ (List.getElem_mem hi)
 have hni : 0 < l[i].words.length := hn _ (List.getElem_mem hi)
 have hv0 := apV_at m hp hi
 refine Ctr.of (rs := [.tmp 4, .tmp 5]) Tok true Try.func23 rfl rfl rfl rfl (by simp [ofDL]) (fun w0 kp => ?_)
 simp only [↓sx0, sxE, encs, sevalprocAttr]
 rw [hm, hp, hw]
 refine DrawW.plan Tok mixed (.q 0 <| .q 2 <| .e 1 [2] <| .e 3 [] <| .q 4 <| .q 5 <| .q 6 <| .q 7 <| .q 8 <| .done) (by kernel_rfl) (by kernel_rfl) ?_
 simp only [↓sx0, sxE, encs, sevalprocAttr]
 refine CallI.ctrA (clone_s b b2 l i hl hi hws hni) (by simp only [sx3, encs, sxR, sevalprocAttr] <;> (try simp) <;> (try rfl)) ?_
 rintro _ _ _ ⟨rfl, ⟨ad, n0, c0, rfl⟩, rfl⟩
 simp only [↓sx0, sxE, encs, sevalprocAttr]
 refine CallI.inlG (rs := [.tmp 4, .tmp 5]) Tok (fun h => by first | cases h; done | rfl) Try.func39 rfl rfl rfl rfl (by simp) (fun ρ σ μ fr lp => ?_) (by refine ⟨_, ?_, rfl⟩; rfl)
 simp only [↓sx0, sxE, encs, sevalprocAttr]
 have hel := elsA_len l i (.slice (some ad) n0 c0)
 have hge := elsA_get hi (.slice (some ad) n0 c0)
 refine BrW.no (by omega) ?_
 simp only [↓sx0, sxE, encs, sevalprocAttr]
 repeat ((with_reducible refine Vc.go ?_ fun _ => ?_); (focus (first | omega | (simp only [InK]; omega) | (simp [InK]; done) | (simp [InK]; omega))); simp only [↓sx0, sxE, encs, sevalprocAttr])
 refine DrawW.plan Tok mixed (.q 0 <| .q 1 <| .q 2 <| .q 3 <| .q 4 <| .q 5 <| .q 6 <| .q 7 <| .q 8 <| .done) (by kernel_rfl) (by kernel_rfl) ?_
 simp only [↓sx0, sxE, encs, sevalprocAttr]
 refine ⟨by omega, _, (by rw [Int.toNat_natCast]; exact hge), ?_⟩
 simp only [↓sx0, sxE, encs, sevalprocAttr]
 repeat ((with_reducible refine Vc.go ?_ fun _ => ?_); (focus (first | omega | (simp only [InK]; omega) | (simp [InK]; done) | (simp [InK]; omega))); simp only [↓sx0, sxE, encs, sevalprocAttr])
 refine BrW.dec (fun h1 => ?_) (fun h1 => ?_)
 ·simp only [↓sx0, sxE, encs, sevalprocAttr]
  have hv : apV l m = ([], 6) := by
   rw [hv0, if_pos (.inl (by rw [hm, hw]; simp; omega))]
  refine EndW.fn ?_ ?_ <;> simp only [sx4, encs, kpLL_map, sxR, sevalprocAttr] <;> (try simp [hv]) <;> (try omega)
 ·simp only [↓sx0, sxE, encs, sevalprocAttr]
  have hk : k + 1 < l[i].words.length := by omega
  rw [if_neg (show ¬ _ by rw [hm, hw]; rintro (h | ⟨h, -⟩) <;> first | omega | (simp at h; omega)), if_neg (show ¬ _ by rw [hm]; rintro (⟨h | h, -⟩ | ⟨h, -⟩ | ⟨h, -⟩) <;> omega), show apL l m i m.word.toNat l[i] = l.set i (swP l[i] k) by simp [apL, hm, hw, swP]] at hv0
  have hge2 : (elsA l i (.slice (some ad) n0 c0))[(i : Int).toNat]? = some [.v (.int .i64 l[i].kind), .v (.slice (some ad) n0 c0)] := by rw [Int.toNat_natCast]; exact hge
  have g1 : (l[i].words.map eS)[(k : Int).toNat]? = some (eS l[i].words[k]) := by rw [Int.toNat_natCast]; simp [show k < l[i].words.length by omega]
  have g2 : (l[i].words.map eS)[((k : Int) + 1).toNat]? = some (eS l[i].words[k + 1]) := by rw [show ((k : Int) + 1).toNat = k + 1 by omega]; simp [hk]
  refine DrawW.plan Tok mixed (.q 0 <| .q 1 <| .q 2 <| .q 3 <| .q 4 <| .q 5 <| .q 6 <| .q 7 <| .q 8 <| .q 9 <| .q 10 <| .q 11 <| .q 12 <| .q 13 <| .q 14 <| .q 15 <| .q 16 <| .q 17 <| .q 18 <| .q 19 <| .q 20 <| .q 21 <| .q 22 <| .q 23 <| .q 24 <| .q 25 <| .q 26 <| .e 27 [] <| .q 28 <| .e 29 [] <| .done) (by kernel_rfl) (by kernel_rfl) ?_
  simp only [↓sx0, sxE, encs, sevalprocAttr]
  refine ⟨by omega, _, hge2, ?_⟩
  simp only [↓sx0, sxE, encs, sevalprocAttr]
  refine ⟨by omega, _, hge2, ?_⟩
  simp only [↓sx0, sxE, encs, sevalprocAttr]
  repeat ((with_reducible refine Vc.go ?_ fun _ => ?_); (focus (first | omega | (simp only [InK]; omega) | (simp [InK]; done) | (simp [InK]; omega))); simp only [↓sx0, sxE, encs, sevalprocAttr])
  refine ⟨by omega, _, hge2, ?_⟩
  simp only [↓sx0, sxE, encs, sevalprocAttr]
  repeat ((with_reducible refine Vc.go ?_ fun _ => ?_); (focus (first | omega | (simp only [InK]; omega) | (simp [InK]; done) | (simp [InK]; omega))); simp only [↓sx0, sxE, encs, sevalprocAttr])
  refine ⟨by omega, _, g2, ?_⟩
  simp only [↓sx0, sxE, encs, sevalprocAttr]
  refine ⟨by omega, _, hge2, ?_⟩
  simp only [↓sx0, sxE, encs, sevalprocAttr]
  repeat ((with_reducible refine Vc.go ?_ fun _ => ?_); (focus (first | omega | (simp only [InK]; omega) | (simp [InK]; done) | (simp [InK]; omega))); simp only [↓sx0, sxE, encs, sevalprocAttr])
  refine ⟨by omega, _, g1, ?_⟩
  simp only [↓sx0, sxE, encs, sevalprocAttr]
  repeat ((with_reducible refine Vc.go ?_ fun _ => ?_); (focus (first | omega | (simp only [InK]; omega) | (simp [InK]; done) | (simp [InK]; omega))); simp only [↓sx0, sxE, encs, sevalprocAttr])
  have hsw : ((((l[i].words.map eS).modify (k : Int).toNat fun x => modE x 0 [.v (.string l[i].words[k + 1])])).modify ((k : Int) + 1).toNat fun x => modE x 0 [.v (.string l[i].words[k])]) = (swP l[i] k).words.map eS := by
   rw [elS_put (by omega), show ((k : Int) + 1) = ((k + 1 : Nat) : Int) by omega, elS_put (by simpa using hk)]
   simp [swP, List.getD_eq_getElem?_getD, hk, show k < l[i].words.length by omega]
  rw [hsw]
  refine CallI.close (k := 1) (s := 1) (ks := (swP l[i] k).words.map eS) (r := 0) (e' := 27) (s' := 2) (els := elsA l i (.slice (some ad) n0 c0)) (i := i) (c := 1) (el := [.v (.int .i64 l[i].kind), .v (.slice (some ad) n0 c0)]) ⟨.slice (some ad) n0 c0, 9, rfl, rfl, by decide, rfl, by decide, by decide, hge, rfl⟩ ?_
  simp only [closeS, setN, List.set_cons_succ, List.set_cons_zero]
  rw [elsA_close hi (.slice (some ad) n0 c0) (swP l[i] k) rfl]
  refine CallI.fn (checkCopy_s false true (l.set i (swP l[i] k))) (by simp only [sx3, encs, sxR, sevalprocAttr] <;> (try simp) <;> (try rfl)) ?_
  simp only [↓sx0, sxE, encs, sevalprocAttr]
  have hkp := kpP (l.set i (swP l[i] k))
  refine BrW.dec (fun h5 => ?_) (fun h5 => ?_)
  ·simp only [↓sx0, sxE, encs, sevalprocAttr]
   have hv : apV l m = ([], (partsErr (l.set i (swP l[i] k))).2) := by rw [hv0, chk, if_neg (by simpa using h5)]
   refine EndW.fn ?_ ?_ <;> simp only [sx4, encs, kpLL_map, sxR, sevalprocAttr] <;> (try simp [hv]) <;> (try omega)
  ·simp only [↓sx0, sxE, encs, sevalprocAttr]
   have hv : apV l m = (l.set i (swP l[i] k), 0) := by rw [hv0, chk, if_pos (by simpa using h5)]
   refine EndW.fn ?_ ?_ <;> simp only [sx4, encs, kpLL_map, sxR, sevalprocAttr] <;> (try simp [hv, hkp]) <;> (try omega)
end Go.Proofs.Ytmiibjncomgneaa
/-
 Chapter 8, walks: a mark is applied.
-/
namespace Go.Proofs.Ytmiibjncomgneaa
open Go Go.Vx
set_option linter.unusedSimpArgs false
set_option linter.unusedVariables false
set_option maxRecDepth 20000
theorem partErr_ok {p : Pt} (h : partErr p = 0) : 0 < p.words.length ∧ p.words.length ≤ 100 := by
 unfold partErr at h
 split at h
 ·split at h
  ·omega
  ·split at h
   ·omega
   ·omega
 ·omega
theorem partsE_ok : ∀ (l : List Pt) (k : Nat), (partsE k l).2 = 0 → ∀ p ∈ l, partErr p = 0
 | [], _, _, p, hp => by simp at hp
 | q :: l, k, h, p, hp => by
  unfold partsE at h
  split at h
  ·rename_i h0
   rcases List.mem_cons.1 hp with rfl | hp
   ·exact h0
   ·exact partsE_ok l (k + 1) h p hp
  ·rename_i h0; exact absurd h h0
theorem parts_ok {l : List Pt} (h : (partsErr l).2 = 0) : l.length ≤ 60 ∧ ∀ p ∈ l, 0 < p.words.length ∧ p.words.length ≤ 100 := by
 unfold partsErr at h
 split at h
 ·simp at h
 ·exact ⟨by omega, fun p hp => partErr_ok (partsE_ok l 0 h p hp)⟩
theorem applied_s (b b2 : Bool) (l : List Pt) (m : Mk) (h0 : (partsErr l).2 = 0) (h1 : mkErr m = 0) :
  Ctr Try.prog 23 [.sl b 2 (l.map (eP b2)), mV m] (fun rr => rr = ⟨.tup [.sl true 2 ((apV l m).1.map (eP true)), (.v (.int .i64 ((apV l m).2)))], []⟩) := by
 obtain ⟨hl, hws⟩ := parts_ok h0
 obtain ⟨⟨a1, a2⟩, hr, -, -⟩ := mk_ok h1
 simp only [inR, Bool.and_eq_true, decide_eq_true_eq] at hr
 obtain ⟨i, hp⟩ : ∃ i : Nat, m.part = i := ⟨m.part.toNat, by omega⟩
 obtain ⟨k, hw⟩ : ∃ k : Nat, m.word = k := ⟨m.word.toNat, by omega⟩
 have w1 : ∀ p ∈ l, p.words.length ≤ 1000 := fun p hp => by have := hws p hp; omega
 have w2 : ∀ p ∈ l, 0 < p.words.length := fun p hp => (hws p hp).1
 by_cases hi : i < l.length
 ·have hm : m.mark = 1 ∨ m.mark = 2 ∨ m.mark = 3 ∨ m.mark = 4 ∨ m.mark = 5 ∨ m.mark = 6 ∨ m.mark = 7 := by omega
  rcases hm with hm | hm | hm | hm | hm | hm | hm
  ·exact appliedOut_s b b2 l m i k hm hp hw (by omega) w1 w2 hi
  ·exact appliedInA_s b b2 l m i k hm hp hw (by omega) w1 w2 hi
  ·exact appliedChange_s b b2 l m i k hm hp hw (by omega) w1 w2 hi
  ·exact appliedSwap_s b b2 l m i k hm hp hw (by omega) w1 w2 hi
  ·exact appliedBreak_s b b2 l m i k hm hp hw (by omega) w1
  ·exact appliedJoin_s b b2 l m i k hm hp hw (by omega) w1
  ·exact appliedTurn_s b b2 l m i k hm hp hw (by omega) w1
 ·exact appliedMiss_s b b2 l m i hp hi (by omega) w1
/-- Applied. -/
def apA (l : List Pt) (m : Mk) : List Pt × Int := if (partsErr l).2 = 0 then (if mkErr m = 0 then apV l m else ([], mkErr m)) else ([], (partsErr l).2)
theorem Applied_s (b b2 : Bool) (l : List Pt) (m : Mk) (hz : MkSz m) : Ctr Try.prog 15 [.sl b 2 (l.map (eP b2)), mV m] (fun rr => rr = ⟨.tup [.sl true 2 ((apA l m).1.map (eP true)), (.v (.int .i64 ((apA l m).2)))], []⟩) := by
 refine Ctr.of (rs := [.tmp 4, .tmp 5]) Tok true Try.func15 rfl rfl rfl rfl (by simp [ofDL]) (fun w0 kp => ?_)
 simp only [↓sx0, sxE, encs, sevalprocAttr]
 refine CallI.fn (checkCopy_s b b2 l) (by simp only [sx3, encs, sxR, sevalprocAttr] <;> (try simp) <;> (try rfl)) ?_
 simp only [↓sx0, sxE, encs, sevalprocAttr]
 refine BrW.dec (fun h0 => ?_) (fun h0 => ?_)
 ·simp only [↓sx0, sxE, encs, sevalprocAttr]
  have hv : apA l m = ([], (partsErr l).2) := by rw [apA, if_neg (by simpa using h0)]
  refine EndW.fn ?_ ?_ <;> simp only [sx4, encs, kpLL_map, sxR, sevalprocAttr] <;> (try simp [hv]) <;> (try omega)
 ·have h0 : (partsErr l).2 = 0 := by simpa using h0
  simp only [↓sx0, sxE, encs, sevalprocAttr]
  refine CallI.fn (checkMark_s m hz) (by simp only [sx3, encs, sxR, sevalprocAttr] <;> (try simp) <;> (try rfl)) ?_
  simp only [↓sx0, sxE, encs, sevalprocAttr]
  refine BrW.dec (fun h1 => ?_) (fun h1 => ?_)
  ·simp only [↓sx0, sxE, encs, sevalprocAttr]
   have hv : apA l m = ([], mkErr m) := by rw [apA, if_pos h0, if_neg (by simpa using h1)]
   refine EndW.fn ?_ ?_ <;> simp only [sx4, encs, kpLL_map, sxR, sevalprocAttr] <;> (try simp [hv]) <;> (try omega)
  ·have h1 : mkErr m = 0 := by simpa using h1
   simp only [↓sx0, sxE, encs, sevalprocAttr]
   refine CallI.fn (applied_s b b2 l m h0 h1) (by simp only [sx3, encs, sxR, sevalprocAttr] <;> (try simp) <;> (try rfl)) ?_
   simp only [↓sx0, sxE, encs, sevalprocAttr]
   have hv : apA l m = apV l m := by rw [apA, if_pos h0, if_pos h1]
   have hkp := kpP (apV l m).1
   refine EndW.fn ?_ ?_ <;> simp only [sx4, encs, kpLL_map, sxR, sevalprocAttr] <;> (try simp [hv, hkp]) <;> (try omega)
end Go.Proofs.Ytmiibjncomgneaa
