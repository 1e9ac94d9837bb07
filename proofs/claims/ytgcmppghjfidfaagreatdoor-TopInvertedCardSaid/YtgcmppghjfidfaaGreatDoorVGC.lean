/-
 Chapter 8, walks: marks are applied, where all rows are closed again.
-/
import Derived.Test.YtgcmppghjfidfaaGreatDoorVGB
import Derived.Test.YtgcmppghjfidfaaGreatDoorVInsR
set_option linter.unusedSimpArgs false
set_option linter.unusedVariables false
namespace Go.Proofs.YtgcmppghjfidfaaGreatDoor
open Go Go.Vx
set_option maxRecDepth 20000
set_option maxHeartbeats 4000000 in
theorem cloneP_s (b b2 : Bool) (l : List Pt) (hl : l.length ≤ 1000) (hw : ∀ p ∈ l, p.words.length ≤ 1000) :
  Ctr Tryz.prog 49 [.sl b 2 (l.map (eP b2))] (fun rr => rr = ⟨.row 0, [.own 81 2 (l.map (eP true))]⟩) := by
 refine Ctr.of (rs := [.tmp 2]) Tok false Tryz.func49 rfl rfl rfl rfl (by simp [ofDL]) (fun w0 kp => ?_)
 simp only [↓sx0, xE, sevalprocAttr]
 have wl : ∀ k (h : k < l.length), (l[k].words.map eS).length ≤ 1000000 := fun k h => by have := hw _ (List.getElem_mem h); simp; omega
 refine LoopW.inv Tok (fun k : Nat => ⟨[(3, .row 0), (8, (.v (.int .i64 k))), (6, .sl b 2 (l.map (eP b2))), (7, (.v (.int .i64 l.length)))], [], [.own 81 2 ((l.take k).map (eP true))]⟩) (fun k => k ≤ l.length) (fun k => l.length - k) 0 (StLe.auto ?_) (Nat.zero_le _) ?_
 ·simp only [List.take_zero, List.map_nil]
  simp only [sx2, xR, sevalprocAttr] <;> (try simp) <;> (try omega)
 rintro k hk
 simp only [↓sx0, xE, sevalprocAttr]
 refine BrW.dec (fun hlt => ?_) (fun hlt => ?_)
 ·simp only [↓sx0, xE, sevalprocAttr]
  have hkl : k < l.length := by omega
  refine IxW.nat hkl ?_
  simp only [↓sx0, xE, sevalprocAttr]
  refine DrawW.plan Tok mixed (.q 0 <| .q 1 <| .q 2 <| .q 3 <| .q 4 <| .e 5 [2] <| .q 6 <| .e 7 [] <| .e 8 [] <| .q 9 <| .done) (by kernel_rfl) (by kernel_rfl) ?_
  simp only [↓sx0, xE, sevalprocAttr]
  refine CallI.ctr (cloneS_s b2 _ (kpS l[k].words) (wl k hkl)) (by simp only [sx3, xR, sevalprocAttr] <;> (try simp) <;> (try rfl)) ?_
  rintro _ rfl
  simp only [↓sx0, xE, sevalprocAttr]
  repeat ((with_reducible refine Vc.go ?_ fun _ => ?_); (focus (first | omega | (simp only [InK]; omega) | (simp [InK] <;> omega))); simp only [↓sx0, xE, sevalprocAttr])
  have hf : (l.take k).map (eP true) ++ [eP true l[k]] = (l.take (k + 1)).map (eP true) := by rw [List.take_succ_eq_append_getElem hkl, List.map_append]; rfl
  refine ⟨k + 1, StLe.auto ?_, by omega, by omega⟩
  simp only [← hf]
  simp only [sx2, xR, sevalprocAttr] <;> (try simp) <;> (try omega)
 ·simp only [↓sx0, xE, sevalprocAttr]
  have hke : k = l.length := by omega
  subst hke
  rw [List.take_length]
  have hkp := kpP l
  exact EndW.r [some 0] (by simp) (by simp only [sx4, sxF, xK, sevalprocAttr] <;> simp [hkp]) (by simp only [sx4, sxF, xK, sevalprocAttr] <;> simp [hkp]) (by simp only [sx4, sxF, xK, sevalprocAttr] <;> simp [hkp]) (by simp only [sx4, sxF, xK, sevalprocAttr] <;> simp [hkp])
/-- what stands in the place of a part. -/
def apL (l : List Pt) (m : Mk) (i k : Nat) (p : Pt) : List Pt :=
 if m.mark = 1 then l.set i ⟨p.kind, p.words.take k ++ p.words.drop (k + 1)⟩
 else if m.mark = 2 then l.set i (insP p k m.new)
 else if m.mark = 3 then l.set i ⟨p.kind, p.words.set k m.new⟩
 else if m.mark = 4 then l.set i ⟨p.kind, (p.words.set k (p.words.getD (k + 1) em)).set (k + 1) (p.words.getD k em)⟩
 else if m.mark = 5 then l.take i ++ ⟨p.kind, p.words.take k⟩ :: ⟨m.kind, p.words.drop k⟩ :: l.drop (i + 1)
 else if m.mark = 6 then l.take i ++ ⟨p.kind, p.words ++ (l.getD (i + 1) ⟨0, []⟩).words⟩ :: l.drop (i + 2)
 else l.set i ⟨m.kind, p.words⟩
def chk (l : List Pt) : List Pt × Int := if (partsErr l).2 = 0 then (l, 0) else ([], (partsErr l).2)
/-- applied, by the kinds of marks. -/
def apV (l : List Pt) (m : Mk) : List Pt × Int :=
 match l[m.part.toNat]? with
 | none => ([], 6)
 | some p =>
  let n : Int := p.words.length
  if (if m.mark = 2 then n else if m.mark = 4 then n - 2 else if m.mark = 6 then 100 else if m.mark = 7 then 0 else n - 1) < m.word ∨ (m.mark = 6 ∧ m.part = l.length - 1) then ([], 6)
  else if ((m.mark = 1 ∨ m.mark = 3) ∧ p.words.getD m.word.toNat em ≠ m.old) ∨ (m.mark = 6 ∧ (n ≠ m.word ∨ (l.getD (m.part.toNat + 1) ⟨0, []⟩).kind ≠ m.kind)) ∨ (m.mark = 7 ∧ p.kind ≠ m.was) then ([], 13)
  else chk (apL l m m.part.toNat m.word.toNat p)
theorem apV_at {l : List Pt} (m : Mk) {i : Nat} (hp : m.part = i) (hi : i < l.length) : apV l m =
  if (if m.mark = 2 then (l[i].words.length : Int) else if m.mark = 4 then (l[i].words.length : Int) - 2 else if m.mark = 6 then 100 else if m.mark = 7 then 0 else (l[i].words.length : Int) - 1) < m.word ∨ (m.mark = 6 ∧ m.part = l.length - 1) then ([], 6)
  else if ((m.mark = 1 ∨ m.mark = 3) ∧ l[i].words.getD m.word.toNat em ≠ m.old) ∨ (m.mark = 6 ∧ ((l[i].words.length : Int) ≠ m.word ∨ (l.getD (i + 1) ⟨0, []⟩).kind ≠ m.kind)) ∨ (m.mark = 7 ∧ l[i].kind ≠ m.was) then ([], 13)
  else chk (apL l m i m.word.toNat l[i]) := by
 rw [apV, hp, Int.toNat_natCast, List.getElem?_eq_getElem hi]
theorem elP_kind {l : List Pt} {i : Nat} (hi : i < l.length) (k : Int) : ((l.map (eP true)).modify (i : Int).toNat fun x => modE x 0 [.v (.int .i64 k)]) = (l.set i ⟨k, l[i].words⟩).map (eP true) := by
 rw [Int.toNat_natCast]
 apply List.ext_getElem?
 intro j
 rw [List.getElem?_modify]
 by_cases h : i = j
 ·subst h
  simp [modE, eP, hi]
 ·simp [h]
set_option maxHeartbeats 8000000 in
theorem appliedTurn_s (b b2 : Bool) (l : List Pt) (m : Mk) (i k : Nat) (hm : m.mark = 7) (hp : m.part = i) (hw : m.word = k) (hl : l.length ≤ 1000) (hws : ∀ p ∈ l, p.words.length ≤ 1000) :
  Ctr Tryz.prog 50 [.sl b 2 (l.map (eP b2)), mV m] (fun rr => rr = ⟨.tup [.sl true 2 ((apV l m).1.map (eP true)), (.v (.int .i64 ((apV l m).2)))], []⟩) := by
 have encs := And.intro encs mapE
 refine Ctr.of (rs := [.tmp 4, .tmp 5]) Tok true Tryz.func50 rfl rfl rfl rfl (by simp [ofDL]) (fun w0 kp => ?_)
 simp only [↓sx0, sxE, encs, sevalprocAttr]
 rw [hm, hp, hw]
 refine DrawW.plan Tok mixed (.q 0 <| .q 2 <| .e 1 [2] <| .e 3 [] <| .q 4 <| .q 5 <| .q 6 <| .q 7 <| .q 8 <| .done) (by kernel_rfl) (by kernel_rfl) ?_
 simp only [↓sx0, sxE, encs, sevalprocAttr]
 refine CallI.ctr (cloneP_s b b2 l hl hws) (by simp only [sx3, encs, sxR, sevalprocAttr] <;> (try simp) <;> (try rfl)) ?_
 rintro _ rfl
 simp only [↓sx0, sxE, encs, sevalprocAttr]
 refine CallI.inlG (rs := [.tmp 4, .tmp 5]) Tok (fun h => by first | cases h; done | rfl) Tryz.func82 rfl rfl rfl rfl (by simp) (fun ρ σ μ fr lp => ?_) (by refine ⟨_, ?_, rfl⟩; rfl)
 simp only [↓sx0, sxE, encs, sevalprocAttr]
 refine BrW.dec (fun hlt => ?_) (fun hlt => ?_)
 ·simp only [↓sx0, sxE, encs, sevalprocAttr]
  have hv : apV l m = ([], 6) := by
   rw [apV, hp, Int.toNat_natCast, List.getElem?_eq_none (by omega)]
  refine EndW.fn ?_ ?_ <;> simp only [sx4, encs, kpLL_map, sxR, sevalprocAttr] <;> (try simp [hv]) <;> (try omega)
 ·simp only [↓sx0, sxE, encs, sevalprocAttr]
  have hi : i < l.length := by omega
  have hwi : l[i].words.length ≤ 1000 := hws _ (List.getElem_mem hi)
  have hv0 := apV_at m hp hi
  have hge : (l.map (eP true))[(i : Int).toNat]? = some (eP true l[i]) := by rw [Int.toNat_natCast]; simp [hi]
  repeat ((with_reducible refine Vc.go ?_ fun _ => ?_); (focus (first | omega | (simp only [InK]; omega) | (simp [InK] <;> omega))); simp only [↓sx0, sxE, encs, sevalprocAttr])
  refine DrawW.plan Tok mixed (.q 0 <| .q 1 <| .q 2 <| .q 3 <| .q 4 <| .q 5 <| .q 6 <| .q 7 <| .q 8 <| .done) (by kernel_rfl) (by kernel_rfl) ?_
  simp only [↓sx0, sxE, encs, sevalprocAttr]
  refine ⟨by omega, _, hge, ?_⟩
  simp only [↓sx0, sxE, encs, sevalprocAttr]
  repeat ((with_reducible refine Vc.go ?_ fun _ => ?_); (focus (first | omega | (simp only [InK]; omega) | (simp [InK] <;> omega))); simp only [↓sx0, sxE, encs, sevalprocAttr])
  refine BrW.dec (fun h1 => ?_) (fun h1 => ?_)
  ·simp only [↓sx0, sxE, encs, sevalprocAttr]
   have hv : apV l m = ([], 6) := by
    rw [hv0, if_pos (.inl (by rw [hm, hw]; simpa using h1))]
   refine EndW.fn ?_ ?_ <;> simp only [sx4, encs, kpLL_map, sxR, sevalprocAttr] <;> (try simp [hv]) <;> (try omega)
  ·simp only [↓sx0, sxE, encs, sevalprocAttr]
   rw [if_neg (show ¬ _ by rw [hm, hw]; rintro (h | ⟨h, -⟩) <;> simp at h <;> omega)] at hv0
   refine DrawW.plan Tok mixed (.q 0 <| .q 1 <| .q 2 <| .q 3 <| .q 4 <| .q 5 <| .q 6 <| .q 7 <| .done) (by kernel_rfl) (by kernel_rfl) ?_
   simp only [↓sx0, sxE, encs, sevalprocAttr]
   refine ⟨by omega, _, hge, ?_⟩
   simp only [↓sx0, sxE, encs, sevalprocAttr]
   repeat ((with_reducible refine Vc.go ?_ fun _ => ?_); (focus (first | omega | (simp only [InK]; omega) | (simp [InK] <;> omega))); simp only [↓sx0, sxE, encs, sevalprocAttr])
   refine BrW.dec (fun h2 => ?_) (fun h2 => ?_)
   ·simp only [↓sx0, sxE, encs, sevalprocAttr]
    have hv : apV l m = ([], 13) := by
     rw [hv0, if_pos (.inr (.inr ⟨hm, by simpa using h2⟩))]
    refine EndW.fn ?_ ?_ <;> simp only [sx4, encs, kpLL_map, sxR, sevalprocAttr] <;> (try simp [hv]) <;> (try omega)
   ·simp only [↓sx0, sxE, encs, sevalprocAttr]
    repeat ((with_reducible refine Vc.go ?_ fun _ => ?_); (focus (first | omega | (simp only [InK]; omega) | (simp [InK] <;> omega))); simp only [↓sx0, sxE, encs, sevalprocAttr])
    rw [if_neg (show ¬ _ by rw [hm]; rintro (⟨h | h, -⟩ | ⟨h, -⟩ | ⟨-, h⟩) <;> first | omega | exact absurd h (by simpa using h2)), show apL l m i m.word.toNat l[i] = l.set i ⟨m.kind, l[i].words⟩ by simp [apL, hm]] at hv0
    have hrw : ((l.map (eP true)).modify (i : Int).toNat fun x => modE x 0 [.v (.int .i64 m.kind)]) = (l.set i ⟨m.kind, l[i].words⟩).map (eP true) := elP_kind hi m.kind
    rw [hrw]
    refine CallI.fn (checkCopy_s false true (l.set i ⟨m.kind, l[i].words⟩)) (by simp only [sx3, encs, sxR, sevalprocAttr] <;> (try simp) <;> (try rfl)) ?_
    simp only [↓sx0, sxE, encs, sevalprocAttr]
    have hkp := kpP (l.set i ⟨m.kind, l[i].words⟩)
    refine BrW.dec (fun h3 => ?_) (fun h3 => ?_)
    ·simp only [↓sx0, sxE, encs, sevalprocAttr]
     have hv : apV l m = ([], (partsErr (l.set i ⟨m.kind, l[i].words⟩)).2) := by rw [hv0, chk, if_neg (by simpa using h3)]
     refine EndW.fn ?_ ?_ <;> simp only [sx4, encs, kpLL_map, sxR, sevalprocAttr] <;> (try simp [hv]) <;> (try omega)
    ·simp only [↓sx0, sxE, encs, sevalprocAttr]
     have hv : apV l m = (l.set i ⟨m.kind, l[i].words⟩, 0) := by rw [hv0, chk, if_pos (by simpa using h3)]
     refine EndW.fn ?_ ?_ <;> simp only [sx4, encs, kpLL_map, sxR, sevalprocAttr] <;> (try simp [hv, hkp]) <;> (try omega)
end Go.Proofs.YtgcmppghjfidfaaGreatDoor
/-
 Chapter 8, walks: marks that join parts are applied.
-/
namespace Go.Proofs.YtgcmppghjfidfaaGreatDoor
open Go Go.Vx
set_option maxRecDepth 20000
def joL (l : List Pt) (i : Nat) (hi : i < l.length) (hj : i + 1 < l.length) : List Pt := l.take i ++ ⟨l[i].kind, l[i].words ++ l[i + 1].words⟩ :: l.drop (i + 2)
theorem elP_words {l : List Pt} {i : Nat} (hi : i < l.length) (ws : List ByteArray) : ((l.map (eP true)).modify (i : Int).toNat fun x => modE x 1 [.sl true 1 (ws.map eS)]) = (l.set i ⟨l[i].kind, ws⟩).map (eP true) := by
 rw [Int.toNat_natCast]
 apply List.ext_getElem?
 intro j
 rw [List.getElem?_modify]
 by_cases h : i = j
 ·subst h
  simp [modE, eP, hi]
 ·simp [h]
theorem elP_join {l : List Pt} {i : Nat} (hi : i < l.length) (hj : i + 1 < l.length) : (((l.set i ⟨l[i].kind, l[i].words ++ l[i + 1].words⟩).map (eP true)).take (i + 1) ++ ((l.set i ⟨l[i].kind, l[i].words ++ l[i + 1].words⟩).map (eP true)).drop (i + 2)) = (joL l i hi hj).map (eP true) := by
 rw [← List.map_take, ← List.map_drop, ← List.map_append]
 congr 1
 rw [joL, List.take_succ_eq_append_getElem (by simpa using hi), List.drop_set, if_pos (by omega)]
 simp [List.take_set_of_le]
set_option maxHeartbeats 8000000 in
theorem appliedJoin_s (b b2 : Bool) (l : List Pt) (m : Mk) (i k : Nat) (hm : m.mark = 6) (hp : m.part = i) (hw : m.word = k) (hl : l.length ≤ 1000) (hws : ∀ p ∈ l, p.words.length ≤ 1000) :
  Ctr Tryz.prog 50 [.sl b 2 (l.map (eP b2)), mV m] (fun rr => rr = ⟨.tup [.sl true 2 ((apV l m).1.map (eP true)), (.v (.int .i64 ((apV l m).2)))], []⟩) := by
 have encs := And.intro (And.intro encs mapE) (show ∀ p, eSL p = [.sl p.1 1 (p.2.map eS)] from fun _ => rfl)
 refine Ctr.of (rs := [.tmp 4, .tmp 5]) Tok true Tryz.func50 rfl rfl rfl rfl (by simp [ofDL]) (fun w0 kp => ?_)
 simp only [↓sx0, sxE, encs, sevalprocAttr]
 rw [hm, hp, hw]
 refine DrawW.plan Tok mixed (.q 0 <| .q 2 <| .e 1 [2] <| .e 3 [] <| .q 4 <| .q 5 <| .q 6 <| .q 7 <| .q 8 <| .done) (by kernel_rfl) (by kernel_rfl) ?_
 simp only [↓sx0, sxE, encs, sevalprocAttr]
 refine CallI.ctr (cloneP_s b b2 l hl hws) (by simp only [sx3, encs, sxR, sevalprocAttr] <;> (try simp) <;> (try rfl)) ?_
 rintro _ rfl
 simp only [↓sx0, sxE, encs, sevalprocAttr]
 refine CallI.inlG (rs := [.tmp 4, .tmp 5]) Tok (fun h => by first | cases h; done | rfl) Tryz.func82 rfl rfl rfl rfl (by simp) (fun ρ σ μ fr lp => ?_) (by refine ⟨_, ?_, rfl⟩; rfl)
 simp only [↓sx0, sxE, encs, sevalprocAttr]
 refine BrW.dec (fun hlt => ?_) (fun hlt => ?_)
 ·simp only [↓sx0, sxE, encs, sevalprocAttr]
  have hv : apV l m = ([], 6) := by
   rw [apV, hp, Int.toNat_natCast, List.getElem?_eq_none (by omega)]
  refine EndW.fn ?_ ?_ <;> simp only [sx4, encs, kpLL_map, sxR, sevalprocAttr] <;> (try simp [hv]) <;> (try omega)
 ·simp only [↓sx0, sxE, encs, sevalprocAttr]
  have hi : i < l.length := by omega
  have hwi : l[i].words.length ≤ 1000 := hws _ (List.getElem_mem hi)
  have hv0 := apV_at m hp hi
  have hge : (l.map (eP true))[(i : Int).toNat]? = some (eP true l[i]) := by rw [Int.toNat_natCast]; simp [hi]
  repeat ((with_reducible refine Vc.go ?_ fun _ => ?_); (focus (first | omega | (simp only [InK]; omega) | (simp [InK] <;> omega))); simp only [↓sx0, sxE, encs, sevalprocAttr])
  refine DrawW.plan Tok mixed (.q 0 <| .q 1 <| .q 2 <| .q 3 <| .q 4 <| .q 5 <| .q 6 <| .q 7 <| .q 8 <| .done) (by kernel_rfl) (by kernel_rfl) ?_
  simp only [↓sx0, sxE, encs, sevalprocAttr]
  refine ⟨by omega, _, hge, ?_⟩
  simp only [↓sx0, sxE, encs, sevalprocAttr]
  repeat ((with_reducible refine Vc.go ?_ fun _ => ?_); (focus (first | omega | (simp only [InK]; omega) | (simp [InK] <;> omega))); simp only [↓sx0, sxE, encs, sevalprocAttr])
  refine BrW.dec (fun h1 => ?_) (fun h1 => ?_)
  ·simp only [↓sx0, sxE, encs, sevalprocAttr]
   have hv : apV l m = ([], 6) := by
    rw [hv0, if_pos (.inl (by rw [hm, hw]; simpa using h1))]
   refine EndW.fn ?_ ?_ <;> simp only [sx4, encs, kpLL_map, sxR, sevalprocAttr] <;> (try simp [hv]) <;> (try omega)
  ·simp only [↓sx0, sxE, encs, sevalprocAttr]
   repeat ((with_reducible refine Vc.go ?_ fun _ => ?_); (focus (first | omega | (simp only [InK]; omega) | (simp [InK] <;> omega))); simp only [↓sx0, sxE, encs, sevalprocAttr])
   refine BrW.dec (fun h2 => ?_) (fun h2 => ?_)
   ·simp only [↓sx0, sxE, encs, sevalprocAttr]
    have hv : apV l m = ([], 6) := by
     rw [hv0, if_pos (.inr ⟨hm, by rw [hp]; simpa using h2⟩)]
    refine EndW.fn ?_ ?_ <;> simp only [sx4, encs, kpLL_map, sxR, sevalprocAttr] <;> (try simp [hv]) <;> (try omega)
   ·simp only [↓sx0, sxE, encs, sevalprocAttr]
    rw [if_neg (show ¬ _ by rw [hm, hw, hp]; rintro (h | ⟨-, h⟩) <;> first | omega | (simp at h; omega))] at hv0
    have hj : i + 1 < l.length := by omega
    have hgj : (l.map (eP true))[(((i : Int)) + 1).toNat]? = some (eP true l[i + 1]) := by rw [show ((i : Int) + 1).toNat = i + 1 by omega]; simp [hj]
    refine DrawW.plan Tok mixed (.q 0 <| .q 1 <| .q 2 <| .q 3 <| .q 4 <| .q 5 <| .q 6 <| .q 7 <| .q 8 <| .q 9 <| .q 10 <| .q 11 <| .q 12 <| .q 13 <| .q 14 <| .q 15 <| .done) (by kernel_rfl) (by kernel_rfl) ?_
    simp only [↓sx0, sxE, encs, sevalprocAttr]
    refine BrW.dec (fun h3 => ?_) (fun h3 => ?_)
    ·simp only [↓sx0, sxE, encs, sevalprocAttr]
     have hv : apV l m = ([], 13) := by
      rw [hv0, if_pos (.inr (.inl ⟨hm, .inl (by rw [hw]; simpa using h3)⟩))]
     refine EndW.fn ?_ ?_ <;> simp only [sx4, encs, kpLL_map, sxR, sevalprocAttr] <;> (try simp [hv]) <;> (try omega)
    ·simp only [↓sx0, sxE, encs, sevalprocAttr]
     repeat ((with_reducible refine Vc.go ?_ fun _ => ?_); (focus (first | omega | (simp only [InK]; omega) | (simp [InK] <;> omega))); simp only [↓sx0, sxE, encs, sevalprocAttr])
     refine ⟨by omega, _, hgj, ?_⟩
     simp only [↓sx0, sxE, encs, sevalprocAttr]
     repeat ((with_reducible refine Vc.go ?_ fun _ => ?_); (focus (first | omega | (simp only [InK]; omega) | (simp [InK] <;> omega))); simp only [↓sx0, sxE, encs, sevalprocAttr])
     refine BrW.dec (fun h4 => ?_) (fun h4 => ?_)
     ·simp only [↓sx0, sxE, encs, sevalprocAttr]
      have hv : apV l m = ([], 13) := by
       rw [hv0, if_pos (.inr (.inl ⟨hm, .inr (by simpa [hj] using h4)⟩))]
      refine EndW.fn ?_ ?_ <;> simp only [sx4, encs, kpLL_map, sxR, sevalprocAttr] <;> (try simp [hv]) <;> (try omega)
     ·simp only [↓sx0, sxE, encs, sevalprocAttr]
      rw [if_neg (show ¬ _ by rw [hm, hw]; rintro (⟨h | h, -⟩ | ⟨-, h | h⟩ | ⟨h, -⟩) <;> first | omega | exact absurd h (by simpa using h3) | exact absurd h (by simpa [hj] using h4)), show apL l m i m.word.toNat l[i] = joL l i hi hj by simp [apL, hm, joL, hj]] at hv0
      refine DrawW.plan Tok mixed (.q 0 <| .q 1 <| .q 2 <| .q 3 <| .q 4 <| .q 5 <| .q 6 <| .q 7 <| .q 8 <| .q 9 <| .q 10 <| .q 11 <| .e 12 [] <| .e 13 [] <| .q 14 <| .q 15 <| .e 16 [] <| .done) (by kernel_rfl) (by kernel_rfl) ?_
      simp only [↓sx0, sxE, encs, sevalprocAttr]
      refine ⟨by omega, _, hge, ?_⟩
      simp only [↓sx0, sxE, encs, sevalprocAttr]
      repeat ((with_reducible refine Vc.go ?_ fun _ => ?_); (focus (first | omega | (simp only [InK]; omega) | (simp [InK] <;> omega))); simp only [↓sx0, sxE, encs, sevalprocAttr])
      refine ⟨by omega, _, hgj, ?_⟩
      simp only [↓sx0, sxE, encs, sevalprocAttr]
      have hwj : l[i + 1].words.length ≤ 1000 := hws _ (List.getElem_mem hj)
      have hcat : cat [(true, l[i].words), (true, l[i + 1].words)] = l[i].words ++ l[i + 1].words := by simp [cat]
      refine CallI.ctr (concat_s false [(true, l[i].words), (true, l[i + 1].words)] (by simp) (by rw [hcat, List.length_append]; omega)) (by simp only [sx3, encs, sxR, sevalprocAttr] <;> (try simp) <;> (try rfl)) ?_
      rintro _ rfl
      rw [hcat]
      simp only [↓sx0, sxE, encs, sevalprocAttr]
      repeat ((with_reducible refine Vc.go ?_ fun _ => ?_); (focus (first | omega | (simp only [InK]; omega) | (simp [InK] <;> omega))); simp only [↓sx0, sxE, encs, sevalprocAttr])
      rw [show ((i : Int) + 1) = ((i + 1 : Nat) : Int) by omega, show ((i : Int) + 2) = ((i + 2 : Nat) : Int) by omega]
      have hje := elP_words hi (l[i].words ++ l[i + 1].words)
      refine CallI.turnD (r := 0) (e := 81) (s := 2) rfl (deleteP_s _ (i + 1) (i + 2) (by omega) (by simp; omega) (by simp; omega)) ?_
      rw [hje, elP_join hi hj]
      simp only [↓sx0, sxE, encs, sevalprocAttr]
      refine CallI.fn (checkCopy_s false true (joL l i hi hj)) (by simp only [sx3, encs, sxR, sevalprocAttr] <;> (try simp) <;> (try rfl)) ?_
      simp only [↓sx0, sxE, encs, sevalprocAttr]
      have hkp := kpP (joL l i hi hj)
      refine BrW.dec (fun h5 => ?_) (fun h5 => ?_)
      ·simp only [↓sx0, sxE, encs, sevalprocAttr]
       have hv : apV l m = ([], (partsErr (joL l i hi hj)).2) := by rw [hv0, chk, if_neg (by simpa using h5)]
       refine EndW.fn ?_ ?_ <;> simp only [sx4, encs, kpLL_map, sxR, sevalprocAttr] <;> (try simp [hv]) <;> (try omega)
      ·simp only [↓sx0, sxE, encs, sevalprocAttr]
       have hv : apV l m = (joL l i hi hj, 0) := by rw [hv0, chk, if_pos (by simpa using h5)]
       refine EndW.fn ?_ ?_ <;> simp only [sx4, encs, kpLL_map, sxR, sevalprocAttr] <;> (try simp [hv, hkp]) <;> (try omega)
end Go.Proofs.YtgcmppghjfidfaaGreatDoor
/-
 Chapter 8, walks: marks that break parts are applied.
-/
namespace Go.Proofs.YtgcmppghjfidfaaGreatDoor
open Go Go.Vx
set_option maxRecDepth 20000
def brL (l : List Pt) (m : Mk) (i k : Nat) (hi : i < l.length) : List Pt := l.take i ++ ⟨l[i].kind, l[i].words.take k⟩ :: ⟨m.kind, l[i].words.drop k⟩ :: l.drop (i + 1)
theorem elP_break {l : List Pt} (m : Mk) {i k : Nat} (hi : i < l.length) : (((l.set i ⟨l[i].kind, l[i].words.take k⟩).map (eP true)).take (i + 1) ++ [.v (.int .i64 m.kind), .sl true 1 ((l[i].words.drop k).map eS)] :: ((l.set i ⟨l[i].kind, l[i].words.take k⟩).map (eP true)).drop (i + 1)) = (brL l m i k hi).map (eP true) := by
 rw [← List.map_take, ← List.map_drop, show ([.v (.int .i64 m.kind), .sl true 1 ((l[i].words.drop k).map eS)] : List D) = eP true ⟨m.kind, l[i].words.drop k⟩ from rfl, ← List.map_cons, ← List.map_append]
 congr 1
 rw [brL, List.take_succ_eq_append_getElem (by simpa using hi), List.drop_set, if_pos (by omega)]
 simp [List.take_set_of_le]
set_option maxHeartbeats 8000000 in
theorem appliedBreak_s (b b2 : Bool) (l : List Pt) (m : Mk) (i k : Nat) (hm : m.mark = 5) (hp : m.part = i) (hw : m.word = k) (hl : l.length ≤ 1000) (hws : ∀ p ∈ l, p.words.length ≤ 1000) :
  Ctr Tryz.prog 50 [.sl b 2 (l.map (eP b2)), mV m] (fun rr => rr = ⟨.tup [.sl true 2 ((apV l m).1.map (eP true)), (.v (.int .i64 ((apV l m).2)))], []⟩) := by
 have encs := And.intro (And.intro encs mapE) (show ∀ p, eSL p = [.sl p.1 1 (p.2.map eS)] from fun _ => rfl)
 refine Ctr.of (rs := [.tmp 4, .tmp 5]) Tok true Tryz.func50 rfl rfl rfl rfl (by simp [ofDL]) (fun w0 kp => ?_)
 simp only [↓sx0, sxE, encs, sevalprocAttr]
 rw [hm, hp, hw]
 refine DrawW.plan Tok mixed (.q 0 <| .q 2 <| .e 1 [2] <| .e 3 [] <| .q 4 <| .q 5 <| .q 6 <| .q 7 <| .q 8 <| .done) (by kernel_rfl) (by kernel_rfl) ?_
 simp only [↓sx0, sxE, encs, sevalprocAttr]
 refine CallI.ctr (cloneP_s b b2 l hl hws) (by simp only [sx3, encs, sxR, sevalprocAttr] <;> (try simp) <;> (try rfl)) ?_
 rintro _ rfl
 simp only [↓sx0, sxE, encs, sevalprocAttr]
 refine CallI.inlG (rs := [.tmp 4, .tmp 5]) Tok (fun h => by first | cases h; done | rfl) Tryz.func82 rfl rfl rfl rfl (by simp) (fun ρ σ μ fr lp => ?_) (by refine ⟨_, ?_, rfl⟩; rfl)
 simp only [↓sx0, sxE, encs, sevalprocAttr]
 refine BrW.dec (fun hlt => ?_) (fun hlt => ?_)
 ·simp only [↓sx0, sxE, encs, sevalprocAttr]
  have hv : apV l m = ([], 6) := by
   rw [apV, hp, Int.toNat_natCast, List.getElem?_eq_none (by omega)]
  refine EndW.fn ?_ ?_ <;> simp only [sx4, encs, kpLL_map, sxR, sevalprocAttr] <;> (try simp [hv]) <;> (try omega)
 ·simp only [↓sx0, sxE, encs, sevalprocAttr]
  have hi : i < l.length := by omega
  have hwi : l[i].words.length ≤ 1000 := hws _ (List.getElem_mem hi)
  have hv0 := apV_at m hp hi
  have hge : (l.map (eP true))[(i : Int).toNat]? = some (eP true l[i]) := by rw [Int.toNat_natCast]; simp [hi]
  repeat ((with_reducible refine Vc.go ?_ fun _ => ?_); (focus (first | omega | (simp only [InK]; omega) | (simp [InK] <;> omega))); simp only [↓sx0, sxE, encs, sevalprocAttr])
  refine DrawW.plan Tok mixed (.q 0 <| .q 1 <| .q 2 <| .q 3 <| .q 4 <| .q 5 <| .q 6 <| .q 7 <| .q 8 <| .done) (by kernel_rfl) (by kernel_rfl) ?_
  simp only [↓sx0, sxE, encs, sevalprocAttr]
  refine ⟨by omega, _, hge, ?_⟩
  simp only [↓sx0, sxE, encs, sevalprocAttr]
  repeat ((with_reducible refine Vc.go ?_ fun _ => ?_); (focus (first | omega | (simp only [InK]; omega) | (simp [InK] <;> omega))); simp only [↓sx0, sxE, encs, sevalprocAttr])
  refine BrW.dec (fun h1 => ?_) (fun h1 => ?_)
  ·simp only [↓sx0, sxE, encs, sevalprocAttr]
   have hv : apV l m = ([], 6) := by
    rw [hv0, if_pos (.inl (by rw [hm, hw]; simpa using h1))]
   refine EndW.fn ?_ ?_ <;> simp only [sx4, encs, kpLL_map, sxR, sevalprocAttr] <;> (try simp [hv]) <;> (try omega)
  ·simp only [↓sx0, sxE, encs, sevalprocAttr]
   rw [if_neg (show ¬ _ by rw [hm, hw]; rintro (h | ⟨h, -⟩) <;> first | omega | (simp at h; omega)), if_neg (show ¬ _ by rw [hm]; rintro (⟨h | h, -⟩ | ⟨h, -⟩ | ⟨h, -⟩) <;> omega), show apL l m i m.word.toNat l[i] = brL l m i k hi by simp [apL, hm, hw, brL]] at hv0
   have hki : k < l[i].words.length := by omega
   refine DrawW.plan Tok mixed (.q 0 <| .q 1 <| .q 2 <| .q 3 <| .q 4 <| .q 5 <| .q 6 <| .q 7 <| .e2 8 [1] (.q 9 <| .e 10 [1, 5] <| .e 11 [] <| .done) 10 [1, 5] (.e 8 [1] <| .q 9 <| .e 11 [] <| .done)) (by kernel_rfl) (by kernel_rfl) ?_
   simp only [↓sx0, sxE, encs, sevalprocAttr]
   refine ⟨by omega, _, hge, ?_⟩
   simp only [↓sx0, sxE, encs, sevalprocAttr]
   repeat ((with_reducible refine Vc.go ?_ fun _ => ?_); (focus (first | omega | (simp only [InK]; omega) | (simp [InK] <;> omega))); simp only [↓sx0, sxE, encs, sevalprocAttr])
   have hdr : (List.drop (k : Int).toNat (l[i].words.map eS)) = (l[i].words.drop k).map eS := by rw [Int.toNat_natCast, List.map_drop]
   have htk : (List.take (k : Int).toNat (l[i].words.map eS)) = (l[i].words.take k).map eS := by rw [Int.toNat_natCast, List.map_take]
   rw [hdr]
   refine ⟨?_, ?_⟩
   all_goals
    refine CallI.ctr (cloneS_s true _ (kpS (l[i].words.drop k)) (by simp; omega)) (by simp only [sx3, encs, sxR, sevalprocAttr] <;> (try simp) <;> (try rfl)) ?_
    rintro _ rfl
    simp only [↓sx0, sxE, encs, sevalprocAttr]
    repeat ((with_reducible refine Vc.go ?_ fun _ => ?_); (focus (first | omega | (simp only [InK]; omega) | (simp [InK] <;> omega))); simp only [↓sx0, sxE, encs, sevalprocAttr])
    refine ⟨by omega, _, hge, ?_⟩
    simp only [↓sx0, sxE, encs, sevalprocAttr]
    repeat ((with_reducible refine Vc.go ?_ fun _ => ?_); (focus (first | omega | (simp only [InK]; omega) | (simp [InK] <;> omega))); simp only [↓sx0, sxE, encs, sevalprocAttr])
    rw [htk]
    rw [show ((i : Int) + 1) = ((i + 1 : Nat) : Int) by omega]
    have hje := elP_words hi (l[i].words.take k)
    refine CallI.turn2 (r := 0) (k := 3) (e := 81) (s := 2) (e2 := 81) (s2 := 2) rfl rfl (by decide) (by decide) (insertP_s _ _ (i + 1) (by simp; omega) (by simp; omega) (by simp; omega)) ?_
    rw [hje, elP_break m hi]
    simp only [↓sx0, sxE, encs, sevalprocAttr]
    refine CallI.fn (checkCopy_s false true (brL l m i k hi)) (by simp only [sx3, encs, sxR, sevalprocAttr] <;> (try simp) <;> (try rfl)) ?_
    simp only [↓sx0, sxE, encs, sevalprocAttr]
    have hkp := kpP (brL l m i k hi)
    refine BrW.dec (fun h5 => ?_) (fun h5 => ?_)
    ·simp only [↓sx0, sxE, encs, sevalprocAttr]
     have hv : apV l m = ([], (partsErr (brL l m i k hi)).2) := by rw [hv0, chk, if_neg (by simpa using h5)]
     refine EndW.fn ?_ ?_ <;> simp only [sx4, encs, kpLL_map, sxR, sevalprocAttr] <;> (try simp [hv]) <;> (try omega)
    ·simp only [↓sx0, sxE, encs, sevalprocAttr]
     have hv : apV l m = (brL l m i k hi, 0) := by rw [hv0, chk, if_pos (by simpa using h5)]
     refine EndW.fn ?_ ?_ <;> simp only [sx4, encs, kpLL_map, sxR, sevalprocAttr] <;> (try simp [hv, hkp]) <;> (try omega)
end Go.Proofs.YtgcmppghjfidfaaGreatDoor
/-
 Chapter 8, walks: words that go out.
-/
namespace Go.Proofs.YtgcmppghjfidfaaGreatDoor
open Go Go.Vx
set_option maxRecDepth 20000
set_option maxHeartbeats 4000000 in
theorem appliedMiss_s (b b2 : Bool) (l : List Pt) (m : Mk) (i : Nat) (hp : m.part = i) (hi : ¬ i < l.length) (hl : l.length ≤ 1000) (hws : ∀ p ∈ l, p.words.length ≤ 1000) :
  Ctr Tryz.prog 50 [.sl b 2 (l.map (eP b2)), mV m] (fun rr => rr = ⟨.tup [.sl true 2 ((apV l m).1.map (eP true)), (.v (.int .i64 ((apV l m).2)))], []⟩) := by
 refine Ctr.of (rs := [.tmp 4, .tmp 5]) Tok true Tryz.func50 rfl rfl rfl rfl (by simp [ofDL]) (fun w0 kp => ?_)
 simp only [↓sx0, xE, sevalprocAttr]
 rw [hp]
 refine DrawW.plan Tok mixed (.q 0 <| .q 2 <| .e 1 [2] <| .e 3 [] <| .q 4 <| .q 5 <| .q 6 <| .q 7 <| .q 8 <| .done) (by kernel_rfl) (by kernel_rfl) ?_
 simp only [↓sx0, xE, sevalprocAttr]
 refine CallI.ctr (cloneP_s b b2 l hl hws) (by simp only [sx3, xR, sevalprocAttr] <;> (try simp) <;> (try rfl)) ?_
 rintro _ rfl
 simp only [↓sx0, xE, sevalprocAttr]
 refine CallI.inlG (rs := [.tmp 4, .tmp 5]) Tok (fun h => by first | cases h; done | rfl) Tryz.func82 rfl rfl rfl rfl (by simp) (fun ρ σ μ fr lp => ?_) (by refine ⟨_, ?_, rfl⟩; rfl)
 simp only [↓sx0, xE, sevalprocAttr]
 refine BrW.yes (by omega) ?_
 simp only [↓sx0, xE, sevalprocAttr]
 have hv : apV l m = ([], 6) := by
  rw [apV, hp, Int.toNat_natCast, List.getElem?_eq_none (by omega)]
 refine EndW.fn ?_ ?_ <;> simp only [sx4, xK, sevalprocAttr] <;> (try simp [hv]) <;> (try omega)
def outP (p : Pt) (k : Nat) : Pt := ⟨p.kind, p.words.take k ++ p.words.drop (k + 1)⟩
set_option maxHeartbeats 8000000 in
theorem appliedOut_s (b b2 : Bool) (l : List Pt) (m : Mk) (i k : Nat) (hm : m.mark = 1) (hp : m.part = i) (hw : m.word = k) (hl : l.length ≤ 1000) (hws : ∀ p ∈ l, p.words.length ≤ 1000) (hn : ∀ p ∈ l, 0 < p.words.length) (hi : i < l.length) :
  Ctr Tryz.prog 50 [.sl b 2 (l.map (eP b2)), mV m] (fun rr => rr = ⟨.tup [.sl true 2 ((apV l m).1.map (eP true)), (.v (.int .i64 ((apV l m).2)))], []⟩) := by
 have encs := And.intro encs mapE
 have hwi : l[i].words.length ≤ 1000 := hws _ (List.getElem_mem hi)
 have hni : 0 < l[i].words.length := hn _ (List.getElem_mem hi)
 have hv0 := apV_at m hp hi
 refine Ctr.of (rs := [.tmp 4, .tmp 5]) Tok true Tryz.func50 rfl rfl rfl rfl (by simp [ofDL]) (fun w0 kp => ?_)
 simp only [↓sx0, sxE, encs, sevalprocAttr]
 rw [hm, hp, hw]
 refine DrawW.plan Tok mixed (.q 0 <| .q 2 <| .e 1 [2] <| .e 3 [] <| .q 4 <| .q 5 <| .q 6 <| .q 7 <| .q 8 <| .done) (by kernel_rfl) (by kernel_rfl) ?_
 simp only [↓sx0, sxE, encs, sevalprocAttr]
 refine CallI.ctrA (clone_s b b2 l i hl hi hws hni) (by simp only [sx3, encs, sxR, sevalprocAttr] <;> (try simp) <;> (try rfl)) ?_
 rintro _ _ _ ⟨rfl, ⟨ad, n0, c0, rfl⟩, rfl⟩
 simp only [↓sx0, sxE, encs, sevalprocAttr]
 refine CallI.inlG (rs := [.tmp 4, .tmp 5]) Tok (fun h => by first | cases h; done | rfl) Tryz.func82 rfl rfl rfl rfl (by simp) (fun ρ σ μ fr lp => ?_) (by refine ⟨_, ?_, rfl⟩; rfl)
 simp only [↓sx0, sxE, encs, sevalprocAttr]
 have hel := elsA_len l i (.slice (some ad) n0 c0)
 have hge := elsA_get hi (.slice (some ad) n0 c0)
 refine BrW.no (by omega) ?_
 simp only [↓sx0, sxE, encs, sevalprocAttr]
 repeat ((with_reducible refine Vc.go ?_ fun _ => ?_); (focus (first | omega | (simp only [InK]; omega) | (simp [InK] <;> omega))); simp only [↓sx0, sxE, encs, sevalprocAttr])
 refine DrawW.plan Tok mixed (.q 0 <| .q 1 <| .q 2 <| .q 3 <| .q 4 <| .q 5 <| .q 6 <| .q 7 <| .q 8 <| .done) (by kernel_rfl) (by kernel_rfl) ?_
 simp only [↓sx0, sxE, encs, sevalprocAttr]
 refine ⟨by omega, _, (by rw [Int.toNat_natCast]; exact hge), ?_⟩
 simp only [↓sx0, sxE, encs, sevalprocAttr]
 repeat ((with_reducible refine Vc.go ?_ fun _ => ?_); (focus (first | omega | (simp only [InK]; omega) | (simp [InK] <;> omega))); simp only [↓sx0, sxE, encs, sevalprocAttr])
 refine BrW.dec (fun h1 => ?_) (fun h1 => ?_)
 ·simp only [↓sx0, sxE, encs, sevalprocAttr]
  have hv : apV l m = ([], 6) := by
   rw [hv0, if_pos (.inl (by rw [hm, hw]; simp; omega))]
  refine EndW.fn ?_ ?_ <;> simp only [sx4, encs, kpLL_map, sxR, sevalprocAttr] <;> (try simp [hv]) <;> (try omega)
 ·simp only [↓sx0, sxE, encs, sevalprocAttr]
  have hk : k < l[i].words.length := by omega
  rw [if_neg (show ¬ _ by rw [hm, hw]; rintro (h | ⟨h, -⟩) <;> first | omega | (simp at h; omega))] at hv0
  refine DrawW.plan Tok mixed (.q 0 <| .q 1 <| .q 2 <| .q 3 <| .q 4 <| .q 5 <| .q 6 <| .q 7 <| .q 8 <| .q 9 <| .q 10 <| .done) (by kernel_rfl) (by kernel_rfl) ?_
  simp only [↓sx0, sxE, encs, sevalprocAttr]
  refine ⟨by omega, _, (by rw [Int.toNat_natCast]; exact hge), ?_⟩
  simp only [↓sx0, sxE, encs, sevalprocAttr]
  repeat ((with_reducible refine Vc.go ?_ fun _ => ?_); (focus (first | omega | (simp only [InK]; omega) | (simp [InK] <;> omega))); simp only [↓sx0, sxE, encs, sevalprocAttr])
  have hgw : (l[i].words.map eS)[(k : Int).toNat]? = some (eS l[i].words[k]) := by rw [Int.toNat_natCast]; simp [hk]
  refine ⟨by omega, _, hgw, ?_⟩
  simp only [↓sx0, sxE, encs, sevalprocAttr]
  have hgd : l[i].words.getD m.word.toNat em = l[i].words[k] := by rw [hw, Int.toNat_natCast, List.getD_eq_getElem?_getD, List.getElem?_eq_getElem hk]; rfl
  rw [hgd] at hv0
  refine BrW.dec (fun h2 => ?_) (fun h2 => ?_)
  ·simp only [↓sx0, sxE, encs, sevalprocAttr]
   have hv : apV l m = ([], 13) := by
    rw [hv0, if_pos (.inl ⟨.inl hm, by simpa using h2⟩)]
   refine EndW.fn ?_ ?_ <;> simp only [sx4, encs, kpLL_map, sxR, sevalprocAttr] <;> (try simp [hv]) <;> (try omega)
  ·simp only [↓sx0, sxE, encs, sevalprocAttr]
   rw [if_neg (show ¬ _ by rw [hm]; rintro (⟨-, h⟩ | ⟨h, -⟩ | ⟨h, -⟩) <;> first | omega | exact absurd h (by simpa using h2)), show apL l m i m.word.toNat l[i] = l.set i (outP l[i] k) by simp [apL, hm, hw, outP]] at hv0
   refine ⟨by omega, _, (by rw [Int.toNat_natCast]; exact hge), ?_⟩
   simp only [↓sx0, sxE, encs, sevalprocAttr]
   repeat ((with_reducible refine Vc.go ?_ fun _ => ?_); (focus (first | omega | (simp only [InK]; omega) | (simp [InK] <;> omega))); simp only [↓sx0, sxE, encs, sevalprocAttr])
   rw [show ((k : Int) + 1) = ((k + 1 : Nat) : Int) by omega]
   refine CallI.turnD (r := 1) (e := 9) (s := 1) rfl (deleteS_s (l[i].words.map eS) k (k + 1) (by omega) (by simp; omega) (by simp; omega)) ?_
   rw [show (l[i].words.map eS).take k ++ (l[i].words.map eS).drop (k + 1) = (outP l[i] k).words.map eS by simp [outP, List.map_take, List.map_drop]]
   simp only [↓sx0, sxE, encs, sevalprocAttr]
   repeat ((with_reducible refine Vc.go ?_ fun _ => ?_); (focus (first | omega | (simp only [InK]; omega) | (simp [InK] <;> omega))); simp only [↓sx0, sxE, encs, sevalprocAttr])
   rw [Int.toNat_natCast, elsA_put hi (.slice (some ad) n0 c0) (outP l[i] k) rfl]
   refine CallI.fn (checkCopy_s false true (l.set i (outP l[i] k))) (by simp only [sx3, encs, sxR, sevalprocAttr] <;> (try simp) <;> (try rfl)) ?_
   simp only [↓sx0, sxE, encs, sevalprocAttr]
   have hkp := kpP (l.set i (outP l[i] k))
   refine BrW.dec (fun h5 => ?_) (fun h5 => ?_)
   ·simp only [↓sx0, sxE, encs, sevalprocAttr]
    have hv : apV l m = ([], (partsErr (l.set i (outP l[i] k))).2) := by rw [hv0, chk, if_neg (by simpa using h5)]
    refine EndW.fn ?_ ?_ <;> simp only [sx4, encs, kpLL_map, sxR, sevalprocAttr] <;> (try simp [hv]) <;> (try omega)
   ·simp only [↓sx0, sxE, encs, sevalprocAttr]
    have hv : apV l m = (l.set i (outP l[i] k), 0) := by rw [hv0, chk, if_pos (by simpa using h5)]
    refine EndW.fn ?_ ?_ <;> simp only [sx4, encs, kpLL_map, sxR, sevalprocAttr] <;> (try simp [hv, hkp]) <;> (try omega)
end Go.Proofs.YtgcmppghjfidfaaGreatDoor
/-
 Chapter 8, walks: words that come in, all cases.
-/
namespace Go.Proofs.YtgcmppghjfidfaaGreatDoor
open Go Go.Vx
set_option maxRecDepth 20000
theorem insertA_s (l : List ByteArray) (i : Nat) (t : ByteArray) (hi : i ≤ l.length) (h0 : 0 < l.length) (hl : l.length ≤ 1000000) : Turn2 Tryz.prog 122 9 1 (l.map eS) (.int .i64 (i : Int)) 9 1 [[.v (.string t)]] ((l.take i ++ t :: l.drop i).map eS) := by
 by_cases h : i < l.length
 ·exact insert_s l i t h hl
 ·have he : i = l.length := by omega
  subst he
  have := insertS_end (l.map eS) [.v (.string t)] (by simpa using h0) (by simpa using hl)
  rw [List.take_length, List.drop_length, List.map_append]
  simpa [eS] using this
set_option maxHeartbeats 8000000 in
theorem appliedInA_s (b b2 : Bool) (l : List Pt) (m : Mk) (i k : Nat) (hm : m.mark = 2) (hp : m.part = i) (hw : m.word = k) (hl : l.length ≤ 1000) (hws : ∀ p ∈ l, p.words.length ≤ 1000) (hn : ∀ p ∈ l, 0 < p.words.length) (hi : i < l.length) :
  Ctr Tryz.prog 50 [.sl b 2 (l.map (eP b2)), mV m] (fun rr => rr = ⟨.tup [.sl true 2 ((apV l m).1.map (eP true)), (.v (.int .i64 ((apV l m).2)))], []⟩) := by
 have encs := And.intro encs mapE
 have hwi : l[i].words.length ≤ 1000 := hws _ (List.getElem_mem hi)
 have hni : 0 < l[i].words.length := hn _ (List.getElem_mem hi)
 have hv0 := apV_at m hp hi
 refine Ctr.of (rs := [.tmp 4, .tmp 5]) Tok true Tryz.func50 rfl rfl rfl rfl (by simp [ofDL]) (fun w0 kp => ?_)
 simp only [↓sx0, sxE, encs, sevalprocAttr]
 rw [hm, hp, hw]
 refine DrawW.plan Tok mixed (.q 0 <| .q 2 <| .e 1 [2] <| .e 3 [] <| .q 4 <| .q 5 <| .q 6 <| .q 7 <| .q 8 <| .done) (by kernel_rfl) (by kernel_rfl) ?_
 simp only [↓sx0, sxE, encs, sevalprocAttr]
 refine CallI.ctrA (clone_s b b2 l i hl hi hws hni) (by simp only [sx3, encs, sxR, sevalprocAttr] <;> (try simp) <;> (try rfl)) ?_
 rintro _ _ _ ⟨rfl, ⟨ad, n0, c0, rfl⟩, rfl⟩
 simp only [↓sx0, sxE, encs, sevalprocAttr]
 refine CallI.inlG (rs := [.tmp 4, .tmp 5]) Tok (fun h => by first | cases h; done | rfl) Tryz.func82 rfl rfl rfl rfl (by simp) (fun ρ σ μ fr lp => ?_) (by refine ⟨_, ?_, rfl⟩; rfl)
 simp only [↓sx0, sxE, encs, sevalprocAttr]
 have hel := elsA_len l i (.slice (some ad) n0 c0)
 have hge := elsA_get hi (.slice (some ad) n0 c0)
 refine BrW.no (by omega) ?_
 simp only [↓sx0, sxE, encs, sevalprocAttr]
 repeat ((with_reducible refine Vc.go ?_ fun _ => ?_); (focus (first | omega | (simp only [InK]; omega) | (simp [InK] <;> omega))); simp only [↓sx0, sxE, encs, sevalprocAttr])
 refine DrawW.plan Tok mixed (.q 0 <| .q 1 <| .q 2 <| .q 3 <| .q 4 <| .q 5 <| .q 6 <| .q 7 <| .q 8 <| .done) (by kernel_rfl) (by kernel_rfl) ?_
 simp only [↓sx0, sxE, encs, sevalprocAttr]
 refine ⟨by omega, _, (by rw [Int.toNat_natCast]; exact hge), ?_⟩
 simp only [↓sx0, sxE, encs, sevalprocAttr]
 repeat ((with_reducible refine Vc.go ?_ fun _ => ?_); (focus (first | omega | (simp only [InK]; omega) | (simp [InK] <;> omega))); simp only [↓sx0, sxE, encs, sevalprocAttr])
 refine BrW.dec (fun h1 => ?_) (fun h1 => ?_)
 ·simp only [↓sx0, sxE, encs, sevalprocAttr]
  have hv : apV l m = ([], 6) := by
   rw [hv0, if_pos (.inl (by rw [hm, hw]; simp; omega))]
  refine EndW.fn ?_ ?_ <;> simp only [sx4, encs, kpLL_map, sxR, sevalprocAttr] <;> (try simp [hv]) <;> (try omega)
 ·simp only [↓sx0, sxE, encs, sevalprocAttr]
  have hk : k ≤ l[i].words.length := by omega
  rw [if_neg (show ¬ _ by rw [hm, hw]; rintro (h | ⟨h, -⟩) <;> first | omega | (simp at h; omega)), if_neg (show ¬ _ by rw [hm]; rintro (⟨h | h, -⟩ | ⟨h, -⟩ | ⟨h, -⟩) <;> omega), show apL l m i m.word.toNat l[i] = l.set i (insP l[i] k m.new) by simp [apL, hm, hw]] at hv0
  refine DrawW.plan Tok mixed (.q 0 <| .q 1 <| .q 2 <| .q 3 <| .q 4 <| .q 5 <| .q 6 <| .q 7 <| .e 8 [4] <| .e 9 [] <| .q 10 <| .q 11 <| .e 12 [] <| .done) (by kernel_rfl) (by kernel_rfl) ?_
  simp only [↓sx0, sxE, encs, sevalprocAttr]
  refine ⟨by omega, _, (by rw [Int.toNat_natCast]; exact hge), ?_⟩
  simp only [↓sx0, sxE, encs, sevalprocAttr]
  refine CallI.turn2 (r := 1) (k := 3) (x := .int .i64 (k : Int)) (e := 9) (s := 1) (e2 := 9) (s2 := 1) rfl rfl (by decide) (by decide) (insertA_s l[i].words k m.new hk hni (by omega)) ?_
  simp only [↓sx0, sxE, encs, sevalprocAttr]
  repeat ((with_reducible refine Vc.go ?_ fun _ => ?_); (focus (first | omega | (simp only [InK]; omega) | (simp [InK] <;> omega))); simp only [↓sx0, sxE, encs, sevalprocAttr])
  rw [Int.toNat_natCast, show (l[i].words.take k ++ m.new :: l[i].words.drop k) = (insP l[i] k m.new).words from rfl, elsA_put hi (.slice (some ad) n0 c0) (insP l[i] k m.new) rfl]
  refine CallI.fn (checkCopy_s false true (l.set i (insP l[i] k m.new))) (by simp only [sx3, encs, sxR, sevalprocAttr] <;> (try simp) <;> (try rfl)) ?_
  simp only [↓sx0, sxE, encs, sevalprocAttr]
  have hkp := kpP (l.set i (insP l[i] k m.new))
  refine BrW.dec (fun h5 => ?_) (fun h5 => ?_)
  ·simp only [↓sx0, sxE, encs, sevalprocAttr]
   have hv : apV l m = ([], (partsErr (l.set i (insP l[i] k m.new))).2) := by rw [hv0, chk, if_neg (by simpa using h5)]
   refine EndW.fn ?_ ?_ <;> simp only [sx4, encs, kpLL_map, sxR, sevalprocAttr] <;> (try simp [hv]) <;> (try omega)
  ·simp only [↓sx0, sxE, encs, sevalprocAttr]
   have hv : apV l m = (l.set i (insP l[i] k m.new), 0) := by rw [hv0, chk, if_pos (by simpa using h5)]
   refine EndW.fn ?_ ?_ <;> simp only [sx4, encs, kpLL_map, sxR, sevalprocAttr] <;> (try simp [hv, hkp]) <;> (try omega)
end Go.Proofs.YtgcmppghjfidfaaGreatDoor
/-
 Chapter 8, walks: words that are changed.
-/
namespace Go.Proofs.YtgcmppghjfidfaaGreatDoor
open Go Go.Vx
set_option maxRecDepth 20000
def chP (p : Pt) (k : Nat) (t : ByteArray) : Pt := ⟨p.kind, p.words.set k t⟩
theorem elS_put {l : List ByteArray} {k : Nat} (hk : k < l.length) {t : ByteArray} : ((l.map eS).modify (k : Int).toNat fun x => modE x 0 [.v (.string t)]) = (l.set k t).map eS := by
 rw [Int.toNat_natCast]
 apply List.ext_getElem?
 intro j
 rw [List.getElem?_modify]
 by_cases h : k = j
 ·subst h
  simp [modE, eS, hk]
 ·simp [h]
theorem elsA_close {l : List Pt} {i : Nat} (hi : i < l.length) (u : Value) (p : Pt) (hk : p.kind = l[i].kind) : (elsA l i u).set i [.v (.int .i64 l[i].kind), .sl true 1 (p.words.map eS)] = (l.set i p).map (eP true) := by
 unfold elsA
 rw [List.set_set, List.map_set, ← hk]
 rfl
set_option maxHeartbeats 8000000 in
theorem appliedChange_s (b b2 : Bool) (l : List Pt) (m : Mk) (i k : Nat) (hm : m.mark = 3) (hp : m.part = i) (hw : m.word = k) (hl : l.length ≤ 1000) (hws : ∀ p ∈ l, p.words.length ≤ 1000) (hn : ∀ p ∈ l, 0 < p.words.length) (hi : i < l.length) :
  Ctr Tryz.prog 50 [.sl b 2 (l.map (eP b2)), mV m] (fun rr => rr = ⟨.tup [.sl true 2 ((apV l m).1.map (eP true)), (.v (.int .i64 ((apV l m).2)))], []⟩) := by
 have encs := And.intro encs mapE
 have hwi : l[i].words.length ≤ 1000 := hws _ (List.getElem_mem hi)
 have hni : 0 < l[i].words.length := hn _ (List.getElem_mem hi)
 have hv0 := apV_at m hp hi
 refine Ctr.of (rs := [.tmp 4, .tmp 5]) Tok true Tryz.func50 rfl rfl rfl rfl (by simp [ofDL]) (fun w0 kp => ?_)
 simp only [↓sx0, sxE, encs, sevalprocAttr]
 rw [hm, hp, hw]
 refine DrawW.plan Tok mixed (.q 0 <| .q 2 <| .e 1 [2] <| .e 3 [] <| .q 4 <| .q 5 <| .q 6 <| .q 7 <| .q 8 <| .done) (by kernel_rfl) (by kernel_rfl) ?_
 simp only [↓sx0, sxE, encs, sevalprocAttr]
 refine CallI.ctrA (clone_s b b2 l i hl hi hws hni) (by simp only [sx3, encs, sxR, sevalprocAttr] <;> (try simp) <;> (try rfl)) ?_
 rintro _ _ _ ⟨rfl, ⟨ad, n0, c0, rfl⟩, rfl⟩
 simp only [↓sx0, sxE, encs, sevalprocAttr]
 refine CallI.inlG (rs := [.tmp 4, .tmp 5]) Tok (fun h => by first | cases h; done | rfl) Tryz.func82 rfl rfl rfl rfl (by simp) (fun ρ σ μ fr lp => ?_) (by refine ⟨_, ?_, rfl⟩; rfl)
 simp only [↓sx0, sxE, encs, sevalprocAttr]
 have hel := elsA_len l i (.slice (some ad) n0 c0)
 have hge := elsA_get hi (.slice (some ad) n0 c0)
 refine BrW.no (by omega) ?_
 simp only [↓sx0, sxE, encs, sevalprocAttr]
 repeat ((with_reducible refine Vc.go ?_ fun _ => ?_); (focus (first | omega | (simp only [InK]; omega) | (simp [InK] <;> omega))); simp only [↓sx0, sxE, encs, sevalprocAttr])
 refine DrawW.plan Tok mixed (.q 0 <| .q 1 <| .q 2 <| .q 3 <| .q 4 <| .q 5 <| .q 6 <| .q 7 <| .q 8 <| .done) (by kernel_rfl) (by kernel_rfl) ?_
 simp only [↓sx0, sxE, encs, sevalprocAttr]
 refine ⟨by omega, _, (by rw [Int.toNat_natCast]; exact hge), ?_⟩
 simp only [↓sx0, sxE, encs, sevalprocAttr]
 repeat ((with_reducible refine Vc.go ?_ fun _ => ?_); (focus (first | omega | (simp only [InK]; omega) | (simp [InK] <;> omega))); simp only [↓sx0, sxE, encs, sevalprocAttr])
 refine BrW.dec (fun h1 => ?_) (fun h1 => ?_)
 ·simp only [↓sx0, sxE, encs, sevalprocAttr]
  have hv : apV l m = ([], 6) := by
   rw [hv0, if_pos (.inl (by rw [hm, hw]; simp; omega))]
  refine EndW.fn ?_ ?_ <;> simp only [sx4, encs, kpLL_map, sxR, sevalprocAttr] <;> (try simp [hv]) <;> (try omega)
 ·simp only [↓sx0, sxE, encs, sevalprocAttr]
  have hk : k < l[i].words.length := by omega
  rw [if_neg (show ¬ _ by rw [hm, hw]; rintro (h | ⟨h, -⟩) <;> first | omega | (simp at h; omega))] at hv0
  refine DrawW.plan Tok mixed (.q 0 <| .q 1 <| .q 2 <| .q 3 <| .q 4 <| .q 5 <| .q 6 <| .q 7 <| .q 8 <| .q 9 <| .q 10 <| .done) (by kernel_rfl) (by kernel_rfl) ?_
  simp only [↓sx0, sxE, encs, sevalprocAttr]
  refine ⟨by omega, _, (by rw [Int.toNat_natCast]; exact hge), ?_⟩
  simp only [↓sx0, sxE, encs, sevalprocAttr]
  repeat ((with_reducible refine Vc.go ?_ fun _ => ?_); (focus (first | omega | (simp only [InK]; omega) | (simp [InK] <;> omega))); simp only [↓sx0, sxE, encs, sevalprocAttr])
  have hgw : (l[i].words.map eS)[(k : Int).toNat]? = some (eS l[i].words[k]) := by rw [Int.toNat_natCast]; simp [hk]
  refine ⟨by omega, _, hgw, ?_⟩
  simp only [↓sx0, sxE, encs, sevalprocAttr]
  have hgd : l[i].words.getD m.word.toNat em = l[i].words[k] := by rw [hw, Int.toNat_natCast, List.getD_eq_getElem?_getD, List.getElem?_eq_getElem hk]; rfl
  rw [hgd] at hv0
  refine BrW.dec (fun h2 => ?_) (fun h2 => ?_)
  ·simp only [↓sx0, sxE, encs, sevalprocAttr]
   have hv : apV l m = ([], 13) := by
    rw [hv0, if_pos (.inl ⟨.inr hm, by simpa using h2⟩)]
   refine EndW.fn ?_ ?_ <;> simp only [sx4, encs, kpLL_map, sxR, sevalprocAttr] <;> (try simp [hv]) <;> (try omega)
  ·simp only [↓sx0, sxE, encs, sevalprocAttr]
   rw [if_neg (show ¬ _ by rw [hm]; rintro (⟨-, h⟩ | ⟨h, -⟩ | ⟨h, -⟩) <;> first | omega | exact absurd h (by simpa using h2)), show apL l m i m.word.toNat l[i] = l.set i (chP l[i] k m.new) by simp [apL, hm, hw, chP]] at hv0
   refine DrawW.plan Tok mixed (.q 0 <| .q 1 <| .q 2 <| .q 3 <| .q 4 <| .q 5 <| .q 6 <| .q 7 <| .e 8 [] <| .done) (by kernel_rfl) (by kernel_rfl) ?_
   simp only [↓sx0, sxE, encs, sevalprocAttr]
   refine ⟨by omega, _, (by rw [Int.toNat_natCast]; exact hge), ?_⟩
   simp only [↓sx0, sxE, encs, sevalprocAttr]
   repeat ((with_reducible refine Vc.go ?_ fun _ => ?_); (focus (first | omega | (simp only [InK]; omega) | (simp [InK] <;> omega))); simp only [↓sx0, sxE, encs, sevalprocAttr])
   rw [elS_put hk]
   refine CallI.close (k := 1) (s := 1) (ks := (chP l[i] k m.new).words.map eS) (r := 0) (e' := 81) (s' := 2) (els := elsA l i (.slice (some ad) n0 c0)) (i := i) (c := 1) (el := [.v (.int .i64 l[i].kind), .v (.slice (some ad) n0 c0)]) ⟨.slice (some ad) n0 c0, 9, rfl, rfl, by decide, rfl, by decide, by decide, hge, rfl⟩ ?_
   simp only [closeS, setN, List.set_cons_succ, List.set_cons_zero]
   rw [elsA_close hi (.slice (some ad) n0 c0) (chP l[i] k m.new) rfl]
   refine CallI.fn (checkCopy_s false true (l.set i (chP l[i] k m.new))) (by simp only [sx3, encs, sxR, sevalprocAttr] <;> (try simp) <;> (try rfl)) ?_
   simp only [↓sx0, sxE, encs, sevalprocAttr]
   have hkp := kpP (l.set i (chP l[i] k m.new))
   refine BrW.dec (fun h5 => ?_) (fun h5 => ?_)
   ·simp only [↓sx0, sxE, encs, sevalprocAttr]
    have hv : apV l m = ([], (partsErr (l.set i (chP l[i] k m.new))).2) := by rw [hv0, chk, if_neg (by simpa using h5)]
    refine EndW.fn ?_ ?_ <;> simp only [sx4, encs, kpLL_map, sxR, sevalprocAttr] <;> (try simp [hv]) <;> (try omega)
   ·simp only [↓sx0, sxE, encs, sevalprocAttr]
    have hv : apV l m = (l.set i (chP l[i] k m.new), 0) := by rw [hv0, chk, if_pos (by simpa using h5)]
    refine EndW.fn ?_ ?_ <;> simp only [sx4, encs, kpLL_map, sxR, sevalprocAttr] <;> (try simp [hv, hkp]) <;> (try omega)
end Go.Proofs.YtgcmppghjfidfaaGreatDoor
/-
 Chapter 8, walks: words that change places.
-/
namespace Go.Proofs.YtgcmppghjfidfaaGreatDoor
open Go Go.Vx
set_option maxRecDepth 20000
def swP (p : Pt) (k : Nat) : Pt := ⟨p.kind, (p.words.set k (p.words.getD (k + 1) em)).set (k + 1) (p.words.getD k em)⟩
set_option maxHeartbeats 8000000 in
theorem appliedSwap_s (b b2 : Bool) (l : List Pt) (m : Mk) (i k : Nat) (hm : m.mark = 4) (hp : m.part = i) (hw : m.word = k) (hl : l.length ≤ 1000) (hws : ∀ p ∈ l, p.words.length ≤ 1000) (hn : ∀ p ∈ l, 0 < p.words.length) (hi : i < l.length) :
  Ctr Tryz.prog 50 [.sl b 2 (l.map (eP b2)), mV m] (fun rr => rr = ⟨.tup [.sl true 2 ((apV l m).1.map (eP true)), (.v (.int .i64 ((apV l m).2)))], []⟩) := by
 have encs := And.intro encs mapE
 have hwi : l[i].words.length ≤ 1000 := hws _ (List.getElem_mem hi)
 have hni : 0 < l[i].words.length := hn _ (List.getElem_mem hi)
 have hv0 := apV_at m hp hi
 refine Ctr.of (rs := [.tmp 4, .tmp 5]) Tok true Tryz.func50 rfl rfl rfl rfl (by simp [ofDL]) (fun w0 kp => ?_)
 simp only [↓sx0, sxE, encs, sevalprocAttr]
 rw [hm, hp, hw]
 refine DrawW.plan Tok mixed (.q 0 <| .q 2 <| .e 1 [2] <| .e 3 [] <| .q 4 <| .q 5 <| .q 6 <| .q 7 <| .q 8 <| .done) (by kernel_rfl) (by kernel_rfl) ?_
 simp only [↓sx0, sxE, encs, sevalprocAttr]
 refine CallI.ctrA (clone_s b b2 l i hl hi hws hni) (by simp only [sx3, encs, sxR, sevalprocAttr] <;> (try simp) <;> (try rfl)) ?_
 rintro _ _ _ ⟨rfl, ⟨ad, n0, c0, rfl⟩, rfl⟩
 simp only [↓sx0, sxE, encs, sevalprocAttr]
 refine CallI.inlG (rs := [.tmp 4, .tmp 5]) Tok (fun h => by first | cases h; done | rfl) Tryz.func82 rfl rfl rfl rfl (by simp) (fun ρ σ μ fr lp => ?_) (by refine ⟨_, ?_, rfl⟩; rfl)
 simp only [↓sx0, sxE, encs, sevalprocAttr]
 have hel := elsA_len l i (.slice (some ad) n0 c0)
 have hge := elsA_get hi (.slice (some ad) n0 c0)
 refine BrW.no (by omega) ?_
 simp only [↓sx0, sxE, encs, sevalprocAttr]
 repeat ((with_reducible refine Vc.go ?_ fun _ => ?_); (focus (first | omega | (simp only [InK]; omega) | (simp [InK] <;> omega))); simp only [↓sx0, sxE, encs, sevalprocAttr])
 refine DrawW.plan Tok mixed (.q 0 <| .q 1 <| .q 2 <| .q 3 <| .q 4 <| .q 5 <| .q 6 <| .q 7 <| .q 8 <| .done) (by kernel_rfl) (by kernel_rfl) ?_
 simp only [↓sx0, sxE, encs, sevalprocAttr]
 refine ⟨by omega, _, (by rw [Int.toNat_natCast]; exact hge), ?_⟩
 simp only [↓sx0, sxE, encs, sevalprocAttr]
 repeat ((with_reducible refine Vc.go ?_ fun _ => ?_); (focus (first | omega | (simp only [InK]; omega) | (simp [InK] <;> omega))); simp only [↓sx0, sxE, encs, sevalprocAttr])
 refine BrW.dec (fun h1 => ?_) (fun h1 => ?_)
 ·simp only [↓sx0, sxE, encs, sevalprocAttr]
  have hv : apV l m = ([], 6) := by
   rw [hv0, if_pos (.inl (by rw [hm, hw]; simp; omega))]
  refine EndW.fn ?_ ?_ <;> simp only [sx4, encs, kpLL_map, sxR, sevalprocAttr] <;> (try simp [hv]) <;> (try omega)
 ·simp only [↓sx0, sxE, encs, sevalprocAttr]
  have hk : k + 1 < l[i].words.length := by omega
  rw [if_neg (show ¬ _ by rw [hm, hw]; rintro (h | ⟨h, -⟩) <;> first | omega | (simp at h; omega)), if_neg (show ¬ _ by rw [hm]; rintro (⟨h | h, -⟩ | ⟨h, -⟩ | ⟨h, -⟩) <;> omega), show apL l m i m.word.toNat l[i] = l.set i (swP l[i] k) by simp [apL, hm, hw, swP]] at hv0
  have hge2 : (elsA l i (.slice (some ad) n0 c0))[(i : Int).toNat]? = some [.v (.int .i64 l[i].kind), .v (.slice (some ad) n0 c0)] := by rw [Int.toNat_natCast]; exact hge
  have g1 : (l[i].words.map eS)[(k : Int).toNat]? = some (eS l[i].words[k]) := by rw [Int.toNat_natCast]; simp [show k < l[i].words.length by omega]
  have g2 : (l[i].words.map eS)[((k : Int) + 1).toNat]? = some (eS l[i].words[k + 1]) := by rw [show ((k : Int) + 1).toNat = k + 1 by omega]; simp [hk]
  refine DrawW.plan Tok mixed (.q 0 <| .q 1 <| .q 2 <| .q 3 <| .q 4 <| .q 5 <| .q 6 <| .q 7 <| .q 8 <| .q 9 <| .q 10 <| .q 11 <| .q 12 <| .q 13 <| .q 14 <| .q 15 <| .q 16 <| .q 17 <| .q 18 <| .q 19 <| .q 20 <| .q 21 <| .q 22 <| .q 23 <| .q 24 <| .q 25 <| .q 26 <| .e 27 [] <| .q 28 <| .e 29 [] <| .done) (by kernel_rfl) (by kernel_rfl) ?_
  simp only [↓sx0, sxE, encs, sevalprocAttr]
  refine ⟨by omega, _, hge2, ?_⟩
  simp only [↓sx0, sxE, encs, sevalprocAttr]
  refine ⟨by omega, _, hge2, ?_⟩
  simp only [↓sx0, sxE, encs, sevalprocAttr]
  repeat ((with_reducible refine Vc.go ?_ fun _ => ?_); (focus (first | omega | (simp only [InK]; omega) | (simp [InK] <;> omega))); simp only [↓sx0, sxE, encs, sevalprocAttr])
  refine ⟨by omega, _, hge2, ?_⟩
  simp only [↓sx0, sxE, encs, sevalprocAttr]
  repeat ((with_reducible refine Vc.go ?_ fun _ => ?_); (focus (first | omega | (simp only [InK]; omega) | (simp [InK] <;> omega))); simp only [↓sx0, sxE, encs, sevalprocAttr])
  refine ⟨by omega, _, g2, ?_⟩
  simp only [↓sx0, sxE, encs, sevalprocAttr]
  refine ⟨by omega, _, hge2, ?_⟩
  simp only [↓sx0, sxE, encs, sevalprocAttr]
  repeat ((with_reducible refine Vc.go ?_ fun _ => ?_); (focus (first | omega | (simp only [InK]; omega) | (simp [InK] <;> omega))); simp only [↓sx0, sxE, encs, sevalprocAttr])
  refine ⟨by omega, _, g1, ?_⟩
  simp only [↓sx0, sxE, encs, sevalprocAttr]
  repeat ((with_reducible refine Vc.go ?_ fun _ => ?_); (focus (first | omega | (simp only [InK]; omega) | (simp [InK] <;> omega))); simp only [↓sx0, sxE, encs, sevalprocAttr])
  have hsw : ((((l[i].words.map eS).modify (k : Int).toNat fun x => modE x 0 [.v (.string l[i].words[k + 1])])).modify ((k : Int) + 1).toNat fun x => modE x 0 [.v (.string l[i].words[k])]) = (swP l[i] k).words.map eS := by
   rw [elS_put (by omega), show ((k : Int) + 1) = ((k + 1 : Nat) : Int) by omega, elS_put (by simpa using hk)]
   simp [swP, List.getD_eq_getElem?_getD, hk, show k < l[i].words.length by omega]
  rw [hsw]
  refine CallI.close (k := 1) (s := 1) (ks := (swP l[i] k).words.map eS) (r := 0) (e' := 81) (s' := 2) (els := elsA l i (.slice (some ad) n0 c0)) (i := i) (c := 1) (el := [.v (.int .i64 l[i].kind), .v (.slice (some ad) n0 c0)]) ⟨.slice (some ad) n0 c0, 9, rfl, rfl, by decide, rfl, by decide, by decide, hge, rfl⟩ ?_
  simp only [closeS, setN, List.set_cons_succ, List.set_cons_zero]
  rw [elsA_close hi (.slice (some ad) n0 c0) (swP l[i] k) rfl]
  refine CallI.fn (checkCopy_s false true (l.set i (swP l[i] k))) (by simp only [sx3, encs, sxR, sevalprocAttr] <;> (try simp) <;> (try rfl)) ?_
  simp only [↓sx0, sxE, encs, sevalprocAttr]
  have hkp := kpP (l.set i (swP l[i] k))
  refine BrW.dec (fun h5 => ?_) (fun h5 => ?_)
  ·simp only [↓sx0, sxE, encs, sevalprocAttr]
   have hv : apV l m = ([], (partsErr (l.set i (swP l[i] k))).2) := by rw [hv0, chk, if_neg (by simpa using h5)]
   refine EndW.fn ?_ ?_ <;> simp only [sx4, encs, kpLL_map, sxR, sevalprocAttr] <;> (try simp [hv]) <;> (try omega)
  ·simp only [↓sx0, sxE, encs, sevalprocAttr]
   have hv : apV l m = (l.set i (swP l[i] k), 0) := by rw [hv0, chk, if_pos (by simpa using h5)]
   refine EndW.fn ?_ ?_ <;> simp only [sx4, encs, kpLL_map, sxR, sevalprocAttr] <;> (try simp [hv, hkp]) <;> (try omega)
end Go.Proofs.YtgcmppghjfidfaaGreatDoor
/-
 Chapter 8, walks: what a mark moves.
-/
namespace Go.Proofs.YtgcmppghjfidfaaGreatDoor
open Go Go.Vx
set_option maxRecDepth 20000
def lenM (m : Mk) : Int := if m.mark = 1 then -1 else if m.mark = 2 then 1 else 0
def shM (m : Mk) : Int := if m.mark = 5 then 1 else if m.mark = 6 then -1 else 0
def ahM (m : Mk) : Int := if m.mark = 1 then 1 else if m.mark = 3 then 1 else if m.mark = 4 then 2 else 0
def owB (m : Mk) : Bool := decide (1 ≤ m.mark ∧ m.mark ≤ 4)
def p0B (m : Mk) : Bool := ptsB m && decide (m.word = 0)
end Go.Proofs.YtgcmppghjfidfaaGreatDoor
/-
 Chapter 8, walks: two marks in the other order, where none breaks or joins.
-/
namespace Go.Proofs.YtgcmppghjfidfaaGreatDoor
open Go Go.Vx
set_option maxRecDepth 20000
def wordsP (a b : Mk) : Option (Mk × Mk) :=
 if b.word + ahM b ≤ a.word then some ({ a with word := a.word + lenM b }, b)
 else if a.word + ahM a + lenM a ≤ b.word then some (a, { b with word := b.word - lenM a }) else none
def quietP (a b : Mk) : Option (Mk × Mk) :=
 if a.part ≠ b.part then some (a, b) else if owB a = true ∧ owB b = true then wordsP a b else if owB a = true ∨ owB b = true then some (a, b) else none
def mk0 : Mk := ⟨0, 0, 0, ⟨#[]⟩, ⟨#[]⟩, 0, 0⟩
/-- both in the other order, with the error. -/
def swapF (r : Option (Mk × Mk)) : (Mk × Mk) × Int :=
 match r with
 | none => ((mk0, mk0), 13)
 | some (a, b) => if inR a = true ∧ inR b = true then (if p0B b = true ∨ p0B a = true then ((mk0, mk0), 3) else ((b, a), 0)) else ((mk0, mk0), 2)
def prSV (p : Mk × Mk) : SV := .agg [.v (.int .i64 p.1.mark), .v (.int .i64 p.1.part), .v (.int .i64 p.1.word), .v (.string p.1.old), .v (.string p.1.new), .v (.int .i64 p.1.was), .v (.int .i64 p.1.kind), .v (.int .i64 p.2.mark), .v (.int .i64 p.2.part), .v (.int .i64 p.2.word), .v (.string p.2.old), .v (.string p.2.new), .v (.int .i64 p.2.was), .v (.int .i64 p.2.kind)]
theorem prE : (∀ p, prSV p = .agg [.v (.int .i64 p.1.mark), .v (.int .i64 p.1.part), .v (.int .i64 p.1.word), .v (.string p.1.old), .v (.string p.1.new), .v (.int .i64 p.1.was), .v (.int .i64 p.1.kind), .v (.int .i64 p.2.mark), .v (.int .i64 p.2.part), .v (.int .i64 p.2.word), .v (.string p.2.old), .v (.string p.2.new), .v (.int .i64 p.2.was), .v (.int .i64 p.2.kind)]) ∧ mk0 = ⟨0, 0, 0, ⟨#[]⟩, ⟨#[]⟩, 0, 0⟩ := ⟨fun _ => rfl, rfl⟩
theorem inR_b {m : Mk} (h : inR m = true) : (0 ≤ m.part ∧ m.part ≤ 59) ∧ (0 ≤ m.word ∧ m.word ≤ 100) := by
 simpa [inR] using h
end Go.Proofs.YtgcmppghjfidfaaGreatDoor
/-
 Chapter 8, walks: two marks in the other order, the first one breaks.
-/
namespace Go.Proofs.YtgcmppghjfidfaaGreatDoor
open Go Go.Vx
set_option maxRecDepth 20000
def befP (a b : Mk) : Option (Mk × Mk) :=
 if b.mark = 6 then (if b.part = a.part - 1 then none else some ({ a with part := a.part + shM b }, b)) else some ({ a with part := a.part + shM b }, b)
def brokenP (a b : Mk) : Option (Mk × Mk) :=
 if b.part < a.part then befP a b else if a.part + 1 < b.part then some (a, { b with part := b.part - 1 }) else if ptsB b = true then none
 else if b.part = a.part then (if owB b = true then some ({ a with word := a.word + lenM b }, b) else some (a, b)) else if owB b = true then some (a, { b with part := b.part - 1, word := b.word + a.word }) else none
def joinedP (a b : Mk) : Option (Mk × Mk) :=
 if b.part < a.part then befP a b else if a.part < b.part then some (a, { b with part := b.part + 1 }) else if ptsB b = true then none
 else if owB b = true then (if b.word + ahM b ≤ a.word then some ({ a with word := a.word + lenM b }, b) else if a.word ≤ b.word then some (a, { b with part := b.part + 1, word := b.word - a.word }) else none) else some (a, b)
def breaksP (a b : Mk) : Option (Mk × Mk) :=
 if a.part < b.part then some (a, b) else if b.part < a.part then some ({ a with part := a.part + 1 }, b)
 else if owB a = true then (if b.word ≤ a.word then some ({ a with part := a.part + 1, word := a.word - b.word }, b) else if a.word + ahM a + lenM a ≤ b.word then some (a, { b with word := b.word - lenM a }) else none) else some (a, b)
def joinsP (a b : Mk) : Option (Mk × Mk) :=
 if a.part < b.part then some (a, b) else if b.part + 1 < a.part then some ({ a with part := a.part - 1 }, b)
 else if a.part = b.part then (if owB a = true then some (a, { b with word := b.word - lenM a }) else some (a, b)) else if owB a = true then some ({ a with part := a.part - 1, word := a.word + b.word }, b) else none
end Go.Proofs.YtgcmppghjfidfaaGreatDoor
/-
 Chapter 8, walks: two marks in the other order, the first one joins.
-/
namespace Go.Proofs.YtgcmppghjfidfaaGreatDoor
open Go Go.Vx
set_option maxRecDepth 20000
end Go.Proofs.YtgcmppghjfidfaaGreatDoor
/-
 Chapter 8, walks: two marks in the other order, the second one breaks.
-/
namespace Go.Proofs.YtgcmppghjfidfaaGreatDoor
open Go Go.Vx
set_option maxRecDepth 20000
end Go.Proofs.YtgcmppghjfidfaaGreatDoor
/-
 Chapter 8, walks: two marks in the other order, the second one joins.
-/
namespace Go.Proofs.YtgcmppghjfidfaaGreatDoor
open Go Go.Vx
set_option maxRecDepth 20000
end Go.Proofs.YtgcmppghjfidfaaGreatDoor
/-
 Chapter 8, walks: two marks in the other order (reference).
-/
namespace Go.Proofs.YtgcmppghjfidfaaGreatDoor
open Go Go.Vx
set_option maxRecDepth 20000
def orR (r : Option (Mk × Mk)) (a b : Mk) : SV := match r with
 | some (x, y) => .tup [mV y, mV x, (.v (.bool (true)))]
 | none => .tup [mV b, mV a, (.v (.bool (false)))]
end Go.Proofs.YtgcmppghjfidfaaGreatDoor
/-
 Chapter 8, walks: two marks in the other order (reference), ahead of a break or a join.
-/
namespace Go.Proofs.YtgcmppghjfidfaaGreatDoor
open Go Go.Vx
set_option maxRecDepth 20000
end Go.Proofs.YtgcmppghjfidfaaGreatDoor
/-
 Chapter 8, walks: two marks in the other order, both sides.
-/
namespace Go.Proofs.YtgcmppghjfidfaaGreatDoor
open Go Go.Vx
set_option maxRecDepth 20000
def orderP (a b : Mk) : Option (Mk × Mk) :=
 if a.mark = 5 then brokenP a b else if a.mark = 6 then joinedP a b else if b.mark = 5 then breaksP a b else if b.mark = 6 then joinsP a b else quietP a b
theorem placeR_s (m : Mk) : Ctr Tryz.prog 67 [mV m] (fun rr => rr = ⟨(.v (.int .i64 (if inR m = true then 0 else 2))), []⟩) := by
 refine Ctr.of (rs := [.tmp 2]) Tok true Tryz.func67 rfl rfl rfl rfl (by simp [ofDL]) (fun w0 kp => ?_)
 simp only [↓sx0, xE, sevalprocAttr]
 refine CallI.fn (withinB_s m.part 0 59) (by simp only [sx3, xR, sevalprocAttr] <;> (try simp) <;> (try rfl)) ?_
 simp only [↓sx0, xE, sevalprocAttr]
 refine BrW.of (fun h => ?_) (fun h => ?_)
 ·simp only [↓sx0, xE, sevalprocAttr]
  repeat ((with_reducible refine BrW.tt h ?_); simp only [↓sx0, xE, sevalprocAttr])
  refine CallI.fn (withinB_s m.word 0 100) (by simp only [sx3, xR, sevalprocAttr] <;> (try simp) <;> (try rfl)) ?_
  simp only [↓sx0, xE, sevalprocAttr]
  refine BrW.of (fun h2 => ?_) (fun h2 => ?_)
  ·rw [if_pos (show inR m = true by rw [inR, h, h2]; rfl)]
   simp only [↓sx0, xE, sevalprocAttr]
   repeat ((with_reducible refine BrW.tt h2 ?_); simp only [↓sx0, xE, sevalprocAttr])
   refine EndW.fn ?_ ?_ <;> simp only [sx4, xK, sevalprocAttr] <;> (try simp) <;> (try omega)
  ·rw [if_neg (show ¬ inR m = true by rw [inR, h, h2]; simp)]
   simp only [↓sx0, xE, sevalprocAttr]
   repeat ((with_reducible refine BrW.ff h2 ?_); simp only [↓sx0, xE, sevalprocAttr])
   refine EndW.fn ?_ ?_ <;> simp only [sx4, xK, sevalprocAttr] <;> (try simp) <;> (try omega)
 ·rw [if_neg (show ¬ inR m = true by rw [inR, h]; simp)]
  simp only [↓sx0, xE, sevalprocAttr]
  repeat ((with_reducible refine BrW.ff h ?_); simp only [↓sx0, xE, sevalprocAttr])
  refine EndW.fn ?_ ?_ <;> simp only [sx4, xK, sevalprocAttr] <;> (try simp) <;> (try omega)
/-- what a mark must have at its word. -/
def bdE (m : Mk) : Int := if (ptsB m = true ∧ m.word = 0) ∨ (m.mark = 7 ∧ m.word ≠ 0) then 3 else 0
theorem boundsR_s (m : Mk) : Ctr Tryz.prog 69 [mV m] (fun rr => rr = ⟨(.v (.int .i64 (bdE m))), []⟩) := by
 have hp : ptsB m = true ↔ (m.mark = 5 ∨ m.mark = 6) := by simp [ptsB]
 refine Ctr.of (rs := [.tmp 2]) Tok true Tryz.func69 rfl rfl rfl rfl (by simp [ofDL]) (fun w0 kp => ?_)
 simp only [↓sx0, xE, sevalprocAttr]
 have fin : ∀ c : Prop, [Decidable c] → True := fun _ _ => trivial
 by_cases h56 : m.mark = 5 ∨ m.mark = 6
 ·by_cases hw : m.word = 0
  ·rw [show bdE m = 3 by rw [bdE, if_pos (.inl ⟨hp.2 h56, hw⟩)]]
   rcases h56 with h5 | h6
   ·repeat ((first | (with_reducible refine BrW.yes (by omega) ?_) | (with_reducible refine BrW.no (by omega) ?_)); (try simp only [↓sx0, xE, sevalprocAttr]))
    refine EndW.fn ?_ ?_ <;> simp only [sx4, xK, sevalprocAttr] <;> (try simp) <;> (try omega)
   ·repeat ((first | (with_reducible refine BrW.yes (by omega) ?_) | (with_reducible refine BrW.no (by omega) ?_)); (try simp only [↓sx0, xE, sevalprocAttr]))
    refine EndW.fn ?_ ?_ <;> simp only [sx4, xK, sevalprocAttr] <;> (try simp) <;> (try omega)
  ·rw [show bdE m = 0 by rw [bdE, if_neg (by rw [hp]; omega)]]
   rcases h56 with h5 | h6
   ·repeat ((first | (with_reducible refine BrW.yes (by omega) ?_) | (with_reducible refine BrW.no (by omega) ?_)); (try simp only [↓sx0, xE, sevalprocAttr]))
    refine EndW.fn ?_ ?_ <;> simp only [sx4, xK, sevalprocAttr] <;> (try simp) <;> (try omega)
   ·repeat ((first | (with_reducible refine BrW.yes (by omega) ?_) | (with_reducible refine BrW.no (by omega) ?_)); (try simp only [↓sx0, xE, sevalprocAttr]))
    refine EndW.fn ?_ ?_ <;> simp only [sx4, xK, sevalprocAttr] <;> (try simp) <;> (try omega)
 ·by_cases h7 : m.mark = 7 ∧ m.word ≠ 0
  ·rw [show bdE m = 3 by rw [bdE, if_pos (.inr h7)]]
   repeat ((first | (with_reducible refine BrW.yes (by omega) ?_) | (with_reducible refine BrW.no (by omega) ?_)); (try simp only [↓sx0, xE, sevalprocAttr]))
   refine EndW.fn ?_ ?_ <;> simp only [sx4, xK, sevalprocAttr] <;> (try simp) <;> (try omega)
  ·rw [show bdE m = 0 by rw [bdE, if_neg (by rw [hp]; omega)]]
   by_cases hm : m.mark = 7
   ·repeat ((first | (with_reducible refine BrW.yes (by omega) ?_) | (with_reducible refine BrW.no (by omega) ?_)); (try simp only [↓sx0, xE, sevalprocAttr]))
    refine EndW.fn ?_ ?_ <;> simp only [sx4, xK, sevalprocAttr] <;> (try simp) <;> (try omega)
   ·repeat ((first | (with_reducible refine BrW.yes (by omega) ?_) | (with_reducible refine BrW.no (by omega) ?_)); (try simp only [↓sx0, xE, sevalprocAttr]))
    refine EndW.fn ?_ ?_ <;> simp only [sx4, xK, sevalprocAttr] <;> (try simp) <;> (try omega)
end Go.Proofs.YtgcmppghjfidfaaGreatDoor
/-
 Chapter 8, walks: marks are right (reference).
-/
namespace Go.Proofs.YtgcmppghjfidfaaGreatDoor
open Go Go.Vx
set_option maxRecDepth 20000
set_option maxHeartbeats 4000000 in
theorem told1_s (m : Mk) (hz : MkSz m) (hm : m.mark = 1) : Ctr Tryz.prog 68 [mV m] (fun rr => rr = ⟨(.v (.bool (wantB m.mark m.old m.new m.was m.kind))), []⟩) := by
 rw [wantB, if_pos hm]
 have encs := And.intro encs hm
 refine Ctr.of (rs := [.tmp 2]) Tok true Tryz.func68 rfl rfl rfl rfl (by simp [ofDL]) (fun w0 kp => ?_)
 simp only [↓sx0, sxE, encs, sevalprocAttr]
 refine DrawW.plan Tok mixed (.q 0 <| .q 1 <| .q 2 <| .q 3 <| .q 4 <| .q 5 <| .q 6 <| .q 7 <| .q 8 <| .q 9 <| .q 10 <| .q 11 <| .q 12 <| .q 13 <| .q 14 <| .q 15 <| .q 16 <| .q 17 <| .done) (by kernel_rfl) (by kernel_rfl) ?_
 simp only [↓sx0, sxE, encs, sevalprocAttr]
 refine DrawW.plan Tok mixed (.q 0 <| .q 1 <| .q 3 <| .q 4 <| .q 5 <| .e 2 [4] <| .q 6 <| .q 7 <| .done) (by kernel_rfl) (by kernel_rfl) ?_
 simp only [↓sx0, sxE, encs, sevalprocAttr]
 refine CallI.fn (withinB_s 1 5 7) (by simp only [sx3, encs, sxR, sevalprocAttr] <;> (try simp) <;> (try rfl)) ?_
 simp only [↓sx0, sxE, encs, sevalprocAttr]
 refine CallI.fn ((isWordR_s m.old hz.1)) (by simp only [sx3, encs, sxR, sevalprocAttr] <;> (try simp) <;> (try rfl)) ?_
 simp only [↓sx0, sxE, encs, sevalprocAttr]
 refine BrW.of (fun o1 => ?_) (fun o1 => ?_)
 ·simp only [↓sx0, sxE, encs, sevalprocAttr]
  iterate 6 (
   all_goals (try (with_reducible refine BrW.dec (fun h => ?_) (fun h => ?_)))
   all_goals (try simp only [↓sx0, sxE, encs, sevalprocAttr]) )
  all_goals (
   skip
   refine EndW.fn ?_ (by simp only [sx4, encs, kpLL_map, sxR, sevalprocAttr] <;> (try simp) <;> (try omega))
   simp only [sx4, encs, kpLL_map, sxR, sevalprocAttr]
   clear encs
   simp_all [em] <;> (intros; omega) )
 ·simp only [↓sx0, sxE, encs, sevalprocAttr]
  iterate 6 (
   all_goals (try (with_reducible refine BrW.dec (fun h => ?_) (fun h => ?_)))
   all_goals (try simp only [↓sx0, sxE, encs, sevalprocAttr]) )
  all_goals (
   skip
   refine EndW.fn ?_ (by simp only [sx4, encs, kpLL_map, sxR, sevalprocAttr] <;> (try simp) <;> (try omega))
   simp only [sx4, encs, kpLL_map, sxR, sevalprocAttr]
   clear encs
   simp_all [em] <;> (intros; omega) )
set_option maxHeartbeats 4000000 in
theorem told2_s (m : Mk) (hz : MkSz m) (hm : m.mark = 2) : Ctr Tryz.prog 68 [mV m] (fun rr => rr = ⟨(.v (.bool (wantB m.mark m.old m.new m.was m.kind))), []⟩) := by
 rw [wantB, if_neg (by omega), if_pos hm]
 have encs := And.intro encs hm
 refine Ctr.of (rs := [.tmp 2]) Tok true Tryz.func68 rfl rfl rfl rfl (by simp [ofDL]) (fun w0 kp => ?_)
 simp only [↓sx0, sxE, encs, sevalprocAttr]
 refine DrawW.plan Tok mixed (.q 0 <| .q 1 <| .q 2 <| .q 3 <| .q 4 <| .q 5 <| .q 6 <| .q 7 <| .q 8 <| .q 9 <| .q 10 <| .q 11 <| .q 12 <| .q 13 <| .q 14 <| .q 15 <| .q 16 <| .q 17 <| .done) (by kernel_rfl) (by kernel_rfl) ?_
 simp only [↓sx0, sxE, encs, sevalprocAttr]
 refine DrawW.plan Tok mixed (.q 0 <| .q 1 <| .q 3 <| .q 4 <| .q 5 <| .e 2 [4] <| .q 6 <| .q 7 <| .done) (by kernel_rfl) (by kernel_rfl) ?_
 simp only [↓sx0, sxE, encs, sevalprocAttr]
 refine CallI.fn (withinB_s 2 5 7) (by simp only [sx3, encs, sxR, sevalprocAttr] <;> (try simp) <;> (try rfl)) ?_
 simp only [↓sx0, sxE, encs, sevalprocAttr]
 refine BrW.dec (fun o2 => ?_) (fun o2 => ?_)
 ·simp only [↓sx0, sxE, encs, sevalprocAttr]
  iterate 6 (
   all_goals (try (with_reducible refine BrW.dec (fun h => ?_) (fun h => ?_)))
   all_goals (try simp only [↓sx0, sxE, encs, sevalprocAttr]) )
  all_goals (
   skip
   refine EndW.fn ?_ (by simp only [sx4, encs, kpLL_map, sxR, sevalprocAttr] <;> (try simp) <;> (try omega))
   simp only [sx4, encs, kpLL_map, sxR, sevalprocAttr]
   clear encs
   simp_all [em] <;> (intros; omega) )
 ·simp only [↓sx0, sxE, encs, sevalprocAttr]
  refine CallI.fn ((isWordR_s m.new hz.2)) (by simp only [sx3, encs, sxR, sevalprocAttr] <;> (try simp) <;> (try rfl)) ?_
  simp only [↓sx0, sxE, encs, sevalprocAttr]
  refine BrW.of (fun o1 => ?_) (fun o1 => ?_)
  ·simp only [↓sx0, sxE, encs, sevalprocAttr]
   iterate 6 (
    all_goals (try (with_reducible refine BrW.dec (fun h => ?_) (fun h => ?_)))
    all_goals (try simp only [↓sx0, sxE, encs, sevalprocAttr]) )
   all_goals (
    skip
    refine EndW.fn ?_ (by simp only [sx4, encs, kpLL_map, sxR, sevalprocAttr] <;> (try simp) <;> (try omega))
    simp only [sx4, encs, kpLL_map, sxR, sevalprocAttr]
    clear encs
    simp_all [em] <;> (intros; omega) )
  ·simp only [↓sx0, sxE, encs, sevalprocAttr]
   iterate 6 (
    all_goals (try (with_reducible refine BrW.dec (fun h => ?_) (fun h => ?_)))
    all_goals (try simp only [↓sx0, sxE, encs, sevalprocAttr]) )
   all_goals (
    skip
    refine EndW.fn ?_ (by simp only [sx4, encs, kpLL_map, sxR, sevalprocAttr] <;> (try simp) <;> (try omega))
    simp only [sx4, encs, kpLL_map, sxR, sevalprocAttr]
    clear encs
    simp_all [em] <;> (intros; omega) )
set_option maxHeartbeats 4000000 in
theorem told3_s (m : Mk) (hz : MkSz m) (hm : m.mark = 3) : Ctr Tryz.prog 68 [mV m] (fun rr => rr = ⟨(.v (.bool (wantB m.mark m.old m.new m.was m.kind))), []⟩) := by
 rw [wantB, if_neg (by omega), if_neg (by omega), if_pos hm]
 have encs := And.intro encs hm
 refine Ctr.of (rs := [.tmp 2]) Tok true Tryz.func68 rfl rfl rfl rfl (by simp [ofDL]) (fun w0 kp => ?_)
 simp only [↓sx0, sxE, encs, sevalprocAttr]
 refine DrawW.plan Tok mixed (.q 0 <| .q 1 <| .q 2 <| .q 3 <| .q 4 <| .q 5 <| .q 6 <| .q 7 <| .q 8 <| .q 9 <| .q 10 <| .q 11 <| .q 12 <| .q 13 <| .q 14 <| .q 15 <| .q 16 <| .q 17 <| .done) (by kernel_rfl) (by kernel_rfl) ?_
 simp only [↓sx0, sxE, encs, sevalprocAttr]
 refine DrawW.plan Tok mixed (.q 0 <| .q 1 <| .q 3 <| .q 4 <| .q 5 <| .e 2 [4] <| .q 6 <| .q 7 <| .done) (by kernel_rfl) (by kernel_rfl) ?_
 simp only [↓sx0, sxE, encs, sevalprocAttr]
 refine CallI.fn (withinB_s 3 5 7) (by simp only [sx3, encs, sxR, sevalprocAttr] <;> (try simp) <;> (try rfl)) ?_
 simp only [↓sx0, sxE, encs, sevalprocAttr]
 refine CallI.fn ((isWordR_s m.old hz.1)) (by simp only [sx3, encs, sxR, sevalprocAttr] <;> (try simp) <;> (try rfl)) ?_
 simp only [↓sx0, sxE, encs, sevalprocAttr]
 refine BrW.of (fun o2 => ?_) (fun o2 => ?_)
 ·simp only [↓sx0, sxE, encs, sevalprocAttr]
  refine CallI.fn ((isWordR_s m.new hz.2)) (by simp only [sx3, encs, sxR, sevalprocAttr] <;> (try simp) <;> (try rfl)) ?_
  simp only [↓sx0, sxE, encs, sevalprocAttr]
  refine BrW.of (fun o1 => ?_) (fun o1 => ?_)
  ·simp only [↓sx0, sxE, encs, sevalprocAttr]
   iterate 6 (
    all_goals (try (with_reducible refine BrW.dec (fun h => ?_) (fun h => ?_)))
    all_goals (try simp only [↓sx0, sxE, encs, sevalprocAttr]) )
   all_goals (
    skip
    refine EndW.fn ?_ (by simp only [sx4, encs, kpLL_map, sxR, sevalprocAttr] <;> (try simp) <;> (try omega))
    simp only [sx4, encs, kpLL_map, sxR, sevalprocAttr]
    clear encs
    simp_all [em] <;> (intros; omega) )
  ·simp only [↓sx0, sxE, encs, sevalprocAttr]
   iterate 6 (
    all_goals (try (with_reducible refine BrW.dec (fun h => ?_) (fun h => ?_)))
    all_goals (try simp only [↓sx0, sxE, encs, sevalprocAttr]) )
   all_goals (
    skip
    refine EndW.fn ?_ (by simp only [sx4, encs, kpLL_map, sxR, sevalprocAttr] <;> (try simp) <;> (try omega))
    simp only [sx4, encs, kpLL_map, sxR, sevalprocAttr]
    clear encs
    simp_all [em] <;> (intros; omega) )
 ·simp only [↓sx0, sxE, encs, sevalprocAttr]
  iterate 6 (
   all_goals (try (with_reducible refine BrW.dec (fun h => ?_) (fun h => ?_)))
   all_goals (try simp only [↓sx0, sxE, encs, sevalprocAttr]) )
  all_goals (
   skip
   refine EndW.fn ?_ (by simp only [sx4, encs, kpLL_map, sxR, sevalprocAttr] <;> (try simp) <;> (try omega))
   simp only [sx4, encs, kpLL_map, sxR, sevalprocAttr]
   clear encs
   simp_all [em] <;> (intros; omega) )
set_option maxHeartbeats 4000000 in
theorem told4_s (m : Mk) (hz : MkSz m) (hm : m.mark = 4) : Ctr Tryz.prog 68 [mV m] (fun rr => rr = ⟨(.v (.bool (wantB m.mark m.old m.new m.was m.kind))), []⟩) := by
 rw [wantB, if_neg (by omega), if_neg (by omega), if_neg (by omega), if_neg (by omega), if_neg (by omega)]
 have encs := And.intro encs hm
 refine Ctr.of (rs := [.tmp 2]) Tok true Tryz.func68 rfl rfl rfl rfl (by simp [ofDL]) (fun w0 kp => ?_)
 simp only [↓sx0, sxE, encs, sevalprocAttr]
 refine DrawW.plan Tok mixed (.q 0 <| .q 1 <| .q 2 <| .q 3 <| .q 4 <| .q 5 <| .q 6 <| .q 7 <| .q 8 <| .q 9 <| .q 10 <| .q 11 <| .q 12 <| .q 13 <| .q 14 <| .q 15 <| .q 16 <| .q 17 <| .done) (by kernel_rfl) (by kernel_rfl) ?_
 simp only [↓sx0, sxE, encs, sevalprocAttr]
 refine DrawW.plan Tok mixed (.q 0 <| .q 1 <| .q 3 <| .q 4 <| .q 5 <| .e 2 [4] <| .q 6 <| .q 7 <| .done) (by kernel_rfl) (by kernel_rfl) ?_
 simp only [↓sx0, sxE, encs, sevalprocAttr]
 refine CallI.fn (withinB_s 4 5 7) (by simp only [sx3, encs, sxR, sevalprocAttr] <;> (try simp) <;> (try rfl)) ?_
 simp only [↓sx0, sxE, encs, sevalprocAttr]
 iterate 6 (
  all_goals (try (with_reducible refine BrW.dec (fun h => ?_) (fun h => ?_)))
  all_goals (try simp only [↓sx0, sxE, encs, sevalprocAttr]) )
 all_goals (
  skip
  refine EndW.fn ?_ (by simp only [sx4, encs, kpLL_map, sxR, sevalprocAttr] <;> (try simp) <;> (try omega))
  simp only [sx4, encs, kpLL_map, sxR, sevalprocAttr]
  clear encs
  simp_all [em] <;> (intros; omega) )
set_option maxHeartbeats 4000000 in
theorem told5_s (m : Mk) (hz : MkSz m) (hm : m.mark = 5) : Ctr Tryz.prog 68 [mV m] (fun rr => rr = ⟨(.v (.bool (wantB m.mark m.old m.new m.was m.kind))), []⟩) := by
 rw [wantB, if_neg (by omega), if_neg (by omega), if_neg (by omega), if_pos (by omega)]
 have encs := And.intro encs hm
 refine Ctr.of (rs := [.tmp 2]) Tok true Tryz.func68 rfl rfl rfl rfl (by simp [ofDL]) (fun w0 kp => ?_)
 simp only [↓sx0, sxE, encs, sevalprocAttr]
 refine DrawW.plan Tok mixed (.q 0 <| .q 1 <| .q 2 <| .q 3 <| .q 4 <| .q 5 <| .q 6 <| .q 7 <| .q 8 <| .q 9 <| .q 10 <| .q 11 <| .q 12 <| .q 13 <| .q 14 <| .q 15 <| .q 16 <| .q 17 <| .done) (by kernel_rfl) (by kernel_rfl) ?_
 simp only [↓sx0, sxE, encs, sevalprocAttr]
 refine DrawW.plan Tok mixed (.q 0 <| .q 1 <| .q 3 <| .q 4 <| .q 5 <| .e 2 [4] <| .q 6 <| .q 7 <| .done) (by kernel_rfl) (by kernel_rfl) ?_
 simp only [↓sx0, sxE, encs, sevalprocAttr]
 refine CallI.fn (withinB_s 5 5 7) (by simp only [sx3, encs, sxR, sevalprocAttr] <;> (try simp) <;> (try rfl)) ?_
 simp only [↓sx0, sxE, encs, sevalprocAttr]
 refine BrW.dec (fun o3 => ?_) (fun o3 => ?_)
 ·simp only [↓sx0, sxE, encs, sevalprocAttr]
  iterate 6 (
   all_goals (try (with_reducible refine BrW.dec (fun h => ?_) (fun h => ?_)))
   all_goals (try simp only [↓sx0, sxE, encs, sevalprocAttr]) )
  all_goals (
   skip
   refine EndW.fn ?_ (by simp only [sx4, encs, kpLL_map, sxR, sevalprocAttr] <;> (try simp) <;> (try omega))
   simp only [sx4, encs, kpLL_map, sxR, sevalprocAttr]
   clear encs
   simp_all [em] <;> (intros; omega) )
 ·simp only [↓sx0, sxE, encs, sevalprocAttr]
  refine BrW.dec (fun o2 => ?_) (fun o2 => ?_)
  ·simp only [↓sx0, sxE, encs, sevalprocAttr]
   iterate 6 (
    all_goals (try (with_reducible refine BrW.dec (fun h => ?_) (fun h => ?_)))
    all_goals (try simp only [↓sx0, sxE, encs, sevalprocAttr]) )
   all_goals (
    skip
    refine EndW.fn ?_ (by simp only [sx4, encs, kpLL_map, sxR, sevalprocAttr] <;> (try simp) <;> (try omega))
    simp only [sx4, encs, kpLL_map, sxR, sevalprocAttr]
    clear encs
    simp_all [em] <;> (intros; omega) )
  ·simp only [↓sx0, sxE, encs, sevalprocAttr]
   refine CallI.fn ((isKindR_s m.kind)) (by simp only [sx3, encs, sxR, sevalprocAttr] <;> (try simp) <;> (try rfl)) ?_
   simp only [↓sx0, sxE, encs, sevalprocAttr]
   refine BrW.of (fun o1 => ?_) (fun o1 => ?_)
   ·simp only [↓sx0, sxE, encs, sevalprocAttr]
    iterate 6 (
     all_goals (try (with_reducible refine BrW.dec (fun h => ?_) (fun h => ?_)))
     all_goals (try simp only [↓sx0, sxE, encs, sevalprocAttr]) )
    all_goals (
     skip
     refine EndW.fn ?_ (by simp only [sx4, encs, kpLL_map, sxR, sevalprocAttr] <;> (try simp) <;> (try omega))
     simp only [sx4, encs, kpLL_map, sxR, sevalprocAttr]
     clear encs
     simp_all [em] <;> (intros; omega) )
   ·simp only [↓sx0, sxE, encs, sevalprocAttr]
    iterate 6 (
     all_goals (try (with_reducible refine BrW.dec (fun h => ?_) (fun h => ?_)))
     all_goals (try simp only [↓sx0, sxE, encs, sevalprocAttr]) )
    all_goals (
     skip
     refine EndW.fn ?_ (by simp only [sx4, encs, kpLL_map, sxR, sevalprocAttr] <;> (try simp) <;> (try omega))
     simp only [sx4, encs, kpLL_map, sxR, sevalprocAttr]
     clear encs
     simp_all [em] <;> (intros; omega) )
set_option maxHeartbeats 4000000 in
theorem told6_s (m : Mk) (hz : MkSz m) (hm : m.mark = 6) : Ctr Tryz.prog 68 [mV m] (fun rr => rr = ⟨(.v (.bool (wantB m.mark m.old m.new m.was m.kind))), []⟩) := by
 rw [wantB, if_neg (by omega), if_neg (by omega), if_neg (by omega), if_pos (by omega)]
 have encs := And.intro encs hm
 refine Ctr.of (rs := [.tmp 2]) Tok true Tryz.func68 rfl rfl rfl rfl (by simp [ofDL]) (fun w0 kp => ?_)
 simp only [↓sx0, sxE, encs, sevalprocAttr]
 refine DrawW.plan Tok mixed (.q 0 <| .q 1 <| .q 2 <| .q 3 <| .q 4 <| .q 5 <| .q 6 <| .q 7 <| .q 8 <| .q 9 <| .q 10 <| .q 11 <| .q 12 <| .q 13 <| .q 14 <| .q 15 <| .q 16 <| .q 17 <| .done) (by kernel_rfl) (by kernel_rfl) ?_
 simp only [↓sx0, sxE, encs, sevalprocAttr]
 refine DrawW.plan Tok mixed (.q 0 <| .q 1 <| .q 3 <| .q 4 <| .q 5 <| .e 2 [4] <| .q 6 <| .q 7 <| .done) (by kernel_rfl) (by kernel_rfl) ?_
 simp only [↓sx0, sxE, encs, sevalprocAttr]
 refine CallI.fn (withinB_s 6 5 7) (by simp only [sx3, encs, sxR, sevalprocAttr] <;> (try simp) <;> (try rfl)) ?_
 simp only [↓sx0, sxE, encs, sevalprocAttr]
 refine BrW.dec (fun o3 => ?_) (fun o3 => ?_)
 ·simp only [↓sx0, sxE, encs, sevalprocAttr]
  iterate 6 (
   all_goals (try (with_reducible refine BrW.dec (fun h => ?_) (fun h => ?_)))
   all_goals (try simp only [↓sx0, sxE, encs, sevalprocAttr]) )
  all_goals (
   skip
   refine EndW.fn ?_ (by simp only [sx4, encs, kpLL_map, sxR, sevalprocAttr] <;> (try simp) <;> (try omega))
   simp only [sx4, encs, kpLL_map, sxR, sevalprocAttr]
   clear encs
   simp_all [em] <;> (intros; omega) )
 ·simp only [↓sx0, sxE, encs, sevalprocAttr]
  refine BrW.dec (fun o2 => ?_) (fun o2 => ?_)
  ·simp only [↓sx0, sxE, encs, sevalprocAttr]
   iterate 6 (
    all_goals (try (with_reducible refine BrW.dec (fun h => ?_) (fun h => ?_)))
    all_goals (try simp only [↓sx0, sxE, encs, sevalprocAttr]) )
   all_goals (
    skip
    refine EndW.fn ?_ (by simp only [sx4, encs, kpLL_map, sxR, sevalprocAttr] <;> (try simp) <;> (try omega))
    simp only [sx4, encs, kpLL_map, sxR, sevalprocAttr]
    clear encs
    simp_all [em] <;> (intros; omega) )
  ·simp only [↓sx0, sxE, encs, sevalprocAttr]
   refine CallI.fn ((isKindR_s m.kind)) (by simp only [sx3, encs, sxR, sevalprocAttr] <;> (try simp) <;> (try rfl)) ?_
   simp only [↓sx0, sxE, encs, sevalprocAttr]
   refine BrW.of (fun o1 => ?_) (fun o1 => ?_)
   ·simp only [↓sx0, sxE, encs, sevalprocAttr]
    iterate 6 (
     all_goals (try (with_reducible refine BrW.dec (fun h => ?_) (fun h => ?_)))
     all_goals (try simp only [↓sx0, sxE, encs, sevalprocAttr]) )
    all_goals (
     skip
     refine EndW.fn ?_ (by simp only [sx4, encs, kpLL_map, sxR, sevalprocAttr] <;> (try simp) <;> (try omega))
     simp only [sx4, encs, kpLL_map, sxR, sevalprocAttr]
     clear encs
     simp_all [em] <;> (intros; omega) )
   ·simp only [↓sx0, sxE, encs, sevalprocAttr]
    iterate 6 (
     all_goals (try (with_reducible refine BrW.dec (fun h => ?_) (fun h => ?_)))
     all_goals (try simp only [↓sx0, sxE, encs, sevalprocAttr]) )
    all_goals (
     skip
     refine EndW.fn ?_ (by simp only [sx4, encs, kpLL_map, sxR, sevalprocAttr] <;> (try simp) <;> (try omega))
     simp only [sx4, encs, kpLL_map, sxR, sevalprocAttr]
     clear encs
     simp_all [em] <;> (intros; omega) )
set_option maxHeartbeats 4000000 in
theorem told7_s (m : Mk) (hz : MkSz m) (hm : m.mark = 7) : Ctr Tryz.prog 68 [mV m] (fun rr => rr = ⟨(.v (.bool (wantB m.mark m.old m.new m.was m.kind))), []⟩) := by
 rw [wantB, if_neg (by omega), if_neg (by omega), if_neg (by omega), if_neg (by omega), if_pos (by omega)]
 have encs := And.intro encs hm
 refine Ctr.of (rs := [.tmp 2]) Tok true Tryz.func68 rfl rfl rfl rfl (by simp [ofDL]) (fun w0 kp => ?_)
 simp only [↓sx0, sxE, encs, sevalprocAttr]
 refine DrawW.plan Tok mixed (.q 0 <| .q 1 <| .q 2 <| .q 3 <| .q 4 <| .q 5 <| .q 6 <| .q 7 <| .q 8 <| .q 9 <| .q 10 <| .q 11 <| .q 12 <| .q 13 <| .q 14 <| .q 15 <| .q 16 <| .q 17 <| .done) (by kernel_rfl) (by kernel_rfl) ?_
 simp only [↓sx0, sxE, encs, sevalprocAttr]
 refine DrawW.plan Tok mixed (.q 0 <| .q 1 <| .q 3 <| .q 4 <| .q 5 <| .e 2 [4] <| .q 6 <| .q 7 <| .done) (by kernel_rfl) (by kernel_rfl) ?_
 simp only [↓sx0, sxE, encs, sevalprocAttr]
 refine CallI.fn (withinB_s 7 5 7) (by simp only [sx3, encs, sxR, sevalprocAttr] <;> (try simp) <;> (try rfl)) ?_
 simp only [↓sx0, sxE, encs, sevalprocAttr]
 refine BrW.dec (fun o4 => ?_) (fun o4 => ?_)
 ·simp only [↓sx0, sxE, encs, sevalprocAttr]
  iterate 6 (
   all_goals (try (with_reducible refine BrW.dec (fun h => ?_) (fun h => ?_)))
   all_goals (try simp only [↓sx0, sxE, encs, sevalprocAttr]) )
  all_goals (
   skip
   refine EndW.fn ?_ (by simp only [sx4, encs, kpLL_map, sxR, sevalprocAttr] <;> (try simp) <;> (try omega))
   simp only [sx4, encs, kpLL_map, sxR, sevalprocAttr]
   clear encs
   simp_all [em] <;> (intros; omega) )
 ·simp only [↓sx0, sxE, encs, sevalprocAttr]
  refine BrW.dec (fun o3 => ?_) (fun o3 => ?_)
  ·simp only [↓sx0, sxE, encs, sevalprocAttr]
   iterate 6 (
    all_goals (try (with_reducible refine BrW.dec (fun h => ?_) (fun h => ?_)))
    all_goals (try simp only [↓sx0, sxE, encs, sevalprocAttr]) )
   all_goals (
    skip
    refine EndW.fn ?_ (by simp only [sx4, encs, kpLL_map, sxR, sevalprocAttr] <;> (try simp) <;> (try omega))
    simp only [sx4, encs, kpLL_map, sxR, sevalprocAttr]
    clear encs
    simp_all [em] <;> (intros; omega) )
  ·simp only [↓sx0, sxE, encs, sevalprocAttr]
   refine CallI.fn ((isKindR_s m.kind)) (by simp only [sx3, encs, sxR, sevalprocAttr] <;> (try simp) <;> (try rfl)) ?_
   simp only [↓sx0, sxE, encs, sevalprocAttr]
   refine BrW.of (fun o2 => ?_) (fun o2 => ?_)
   ·simp only [↓sx0, sxE, encs, sevalprocAttr]
    refine CallI.fn ((isKindR_s m.was)) (by simp only [sx3, encs, sxR, sevalprocAttr] <;> (try simp) <;> (try rfl)) ?_
    simp only [↓sx0, sxE, encs, sevalprocAttr]
    refine BrW.of (fun o1 => ?_) (fun o1 => ?_)
    ·simp only [↓sx0, sxE, encs, sevalprocAttr]
     iterate 6 (
      all_goals (try (with_reducible refine BrW.dec (fun h => ?_) (fun h => ?_)))
      all_goals (try simp only [↓sx0, sxE, encs, sevalprocAttr]) )
     all_goals (
      skip
      refine EndW.fn ?_ (by simp only [sx4, encs, kpLL_map, sxR, sevalprocAttr] <;> (try simp) <;> (try omega))
      simp only [sx4, encs, kpLL_map, sxR, sevalprocAttr]
      clear encs
      simp_all [em] <;> (intros; omega) )
    ·simp only [↓sx0, sxE, encs, sevalprocAttr]
     iterate 6 (
      all_goals (try (with_reducible refine BrW.dec (fun h => ?_) (fun h => ?_)))
      all_goals (try simp only [↓sx0, sxE, encs, sevalprocAttr]) )
     all_goals (
      skip
      refine EndW.fn ?_ (by simp only [sx4, encs, kpLL_map, sxR, sevalprocAttr] <;> (try simp) <;> (try omega))
      simp only [sx4, encs, kpLL_map, sxR, sevalprocAttr]
      clear encs
      simp_all [em] <;> (intros; omega) )
   ·simp only [↓sx0, sxE, encs, sevalprocAttr]
    iterate 6 (
     all_goals (try (with_reducible refine BrW.dec (fun h => ?_) (fun h => ?_)))
     all_goals (try simp only [↓sx0, sxE, encs, sevalprocAttr]) )
    all_goals (
     skip
     refine EndW.fn ?_ (by simp only [sx4, encs, kpLL_map, sxR, sevalprocAttr] <;> (try simp) <;> (try omega))
     simp only [sx4, encs, kpLL_map, sxR, sevalprocAttr]
     clear encs
     simp_all [em] <;> (intros; omega) )
theorem toldR_s (m : Mk) (hz : MkSz m) (hk : 1 ≤ m.mark ∧ m.mark ≤ 7) : Ctr Tryz.prog 68 [mV m] (fun rr => rr = ⟨(.v (.bool (wantB m.mark m.old m.new m.was m.kind))), []⟩) := by
 rcases (show m.mark = 1 ∨ m.mark = 2 ∨ m.mark = 3 ∨ m.mark = 4 ∨ m.mark = 5 ∨ m.mark = 6 ∨ m.mark = 7 by omega) with h | h | h | h | h | h | h
 ·exact told1_s m hz h
 ·exact told2_s m hz h
 ·exact told3_s m hz h
 ·exact told4_s m hz h
 ·exact told5_s m hz h
 ·exact told6_s m hz h
 ·exact told7_s m hz h
theorem checkMarkR_s (m : Mk) (hz : MkSz m) : Ctr Tryz.prog 38 [mV m] (fun rr => rr = ⟨(.v (.int .i64 (mkErr m))), []⟩) := by
 have hpl := placeR_s m
 refine Ctr.of (rs := [.tmp 2]) Tok true Tryz.func38 rfl rfl rfl rfl (by simp [ofDL]) (fun w0 kp => ?_)
 simp only [↓sx0, xE, sevalprocAttr]
 refine CallI.fn (withinB_s m.mark 1 7) (by simp only [sx3, xR, sevalprocAttr] <;> (try simp) <;> (try rfl)) ?_
 simp only [↓sx0, xE, sevalprocAttr]
 refine BrW.of (fun hk => ?_) (fun hk => ?_)
 ·have hk : 1 ≤ m.mark ∧ m.mark ≤ 7 := by simpa using hk
  simp only [↓sx0, xE, sevalprocAttr]
  by_cases hr : inR m = true
  ·rw [if_pos hr] at hpl
   refine CallI.fn (hpl) (by simp only [sx3, xR, sevalprocAttr] <;> (try simp) <;> (try rfl)) ?_
   simp only [↓sx0, xE, sevalprocAttr]
   refine BrW.no (by simp) ?_
   simp only [↓sx0, xE, sevalprocAttr]
   have he : mkErr m = if wantB m.mark m.old m.new m.was m.kind = true then bdE m else 3 := by
    rw [mkErr, if_pos hk, if_pos hr, bdE]
    by_cases hw : wantB m.mark m.old m.new m.was m.kind = true
    ·rw [if_pos hw]
     by_cases h1 : ptsB m = true ∧ m.word = 0
     ·rw [if_neg (fun h => h.2.1 h1), if_pos (.inl h1)]
     ·by_cases h2 : m.mark = 7 ∧ m.word ≠ 0
      ·rw [if_neg (fun h => h.2.2 h2), if_pos (.inr h2)]
      ·rw [if_pos ⟨hw, h1, h2⟩, if_neg (fun h => h.elim h1 h2)]
    ·rw [if_neg hw, if_neg (fun h => hw h.1)]
   rw [he]
   refine CallI.fn (toldR_s m hz hk) (by simp only [sx3, xR, sevalprocAttr] <;> (try simp) <;> (try rfl)) ?_
   simp only [↓sx0, xE, sevalprocAttr]
   refine BrW.of (fun ht => ?_) (fun ht => ?_)
   ·rw [if_pos ht]
    simp only [↓sx0, xE, sevalprocAttr]
    refine CallI.fn (boundsR_s m) (by simp only [sx3, xR, sevalprocAttr] <;> (try simp) <;> (try rfl)) ?_
    simp only [↓sx0, xE, sevalprocAttr]
    refine EndW.fn ?_ ?_ <;> simp only [sx4, xK, sevalprocAttr] <;> (try simp) <;> (try omega)
   ·rw [if_neg (by rw [ht]; simp)]
    simp only [↓sx0, xE, sevalprocAttr]
    refine EndW.fn ?_ ?_ <;> simp only [sx4, xK, sevalprocAttr] <;> (try simp) <;> (try omega)
  ·rw [if_neg hr] at hpl
   refine CallI.fn (hpl) (by simp only [sx3, xR, sevalprocAttr] <;> (try simp) <;> (try rfl)) ?_
   simp only [↓sx0, xE, sevalprocAttr]
   rw [show mkErr m = 2 by rw [mkErr, if_pos hk, if_neg hr]]
   refine EndW.fn ?_ ?_ <;> simp only [sx4, xK, sevalprocAttr] <;> (try simp) <;> (try omega)
 ·have hk : ¬ (1 ≤ m.mark ∧ m.mark ≤ 7) := by simpa using hk
  rw [show mkErr m = 15 by rw [mkErr, if_neg hk]]
  simp only [↓sx0, xE, sevalprocAttr]
  refine EndW.fn ?_ ?_ <;> simp only [sx4, xK, sevalprocAttr] <;> (try simp) <;> (try omega)
end Go.Proofs.YtgcmppghjfidfaaGreatDoor
/-
 Chapter 8, walks: both marks in the other order, if they are right.
-/
namespace Go.Proofs.YtgcmppghjfidfaaGreatDoor
open Go Go.Vx
set_option maxRecDepth 20000
def swE (a b : Mk) : (Mk × Mk) × Int := if mkErr a = 0 then (if mkErr b = 0 then swapF (orderP a b) else ((mk0, mk0), mkErr b)) else ((mk0, mk0), mkErr a)
theorem mk_ok {m : Mk} (h : mkErr m = 0) : (1 ≤ m.mark ∧ m.mark ≤ 7) ∧ inR m = true ∧ wantB m.mark m.old m.new m.was m.kind = true ∧ bdE m = 0 := by
 unfold mkErr at h
 split at h
 ·rename_i h1
  split at h
  ·rename_i h2
   split at h
   ·rename_i h3
    exact ⟨h1, h2, h3.1, by rw [bdE, if_neg (fun h => h.elim h3.2.1 h3.2.2)]⟩
   ·omega
  ·omega
 ·omega
theorem brief_s (m : Mk) : Ctr Tryz.prog 37 [mV m] (fun rr => rr = ⟨(.v (.bool (decide (m.old.size ≤ 40 ∧ m.new.size ≤ 40)))), []⟩) := by
 refine Ctr.of (rs := [.tmp 2]) Tok true Tryz.func37 rfl rfl rfl rfl (by simp [ofDL]) (fun w0 kp => ?_)
 simp only [↓sx0, xE, sevalprocAttr]
 refine BrW.dec (fun h => ?_) (fun h => ?_)
 ·rw [show decide (m.old.size ≤ 40 ∧ m.new.size ≤ 40) = decide ((m.new.size : Int) ≤ 40) by rw [decide_eq_decide]; omega]
  simp only [↓sx0, xE, sevalprocAttr]
  refine EndW.fn ?_ ?_ <;> simp only [sx4, xK, sevalprocAttr] <;> (try simp) <;> (try omega)
 ·rw [show decide (m.old.size ≤ 40 ∧ m.new.size ≤ 40) = false by rw [decide_eq_false_iff_not]; omega]
  simp only [↓sx0, xE, sevalprocAttr]
  refine EndW.fn ?_ ?_ <;> simp only [sx4, xK, sevalprocAttr] <;> (try simp) <;> (try omega)
end Go.Proofs.YtgcmppghjfidfaaGreatDoor
/-
 Chapter 8, walks: a mark is applied.
-/
namespace Go.Proofs.YtgcmppghjfidfaaGreatDoor
open Go Go.Vx
set_option maxRecDepth 20000
theorem partErr_ok {p : Pt} (h : partErr p = 0) : 0 < p.words.length ∧ p.words.length ≤ 100 := by
 unfold partErr at h
 split at h
 ·split at h
  ·omega
  ·split at h
   ·omega
   ·omega
 ·omega
theorem partsE_ok : ∀ (l : List Pt) (k : Nat), (partsE k l).2 = 0 → ∀ p ∈ l, partErr p = 0
 | [], _, _, p, hp => by simp at hp
 | q :: l, k, h, p, hp => by
  unfold partsE at h
  split at h
  ·rename_i h0
   rcases List.mem_cons.1 hp with rfl | hp
   ·exact h0
   ·exact partsE_ok l (k + 1) h p hp
  ·rename_i h0; exact absurd h h0
theorem parts_ok {l : List Pt} (h : (partsErr l).2 = 0) : l.length ≤ 60 ∧ ∀ p ∈ l, 0 < p.words.length ∧ p.words.length ≤ 100 := by
 unfold partsErr at h
 split at h
 ·simp at h
 ·exact ⟨by omega, fun p hp => partErr_ok (partsE_ok l 0 h p hp)⟩
theorem applied_s (b b2 : Bool) (l : List Pt) (m : Mk) (h0 : (partsErr l).2 = 0) (h1 : mkErr m = 0) :
  Ctr Tryz.prog 50 [.sl b 2 (l.map (eP b2)), mV m] (fun rr => rr = ⟨.tup [.sl true 2 ((apV l m).1.map (eP true)), (.v (.int .i64 ((apV l m).2)))], []⟩) := by
 obtain ⟨hl, hws⟩ := parts_ok h0
 obtain ⟨⟨a1, a2⟩, hr, -, -⟩ := mk_ok h1
 simp only [inR, Bool.and_eq_true, decide_eq_true_eq] at hr
 obtain ⟨i, hp⟩ : ∃ i : Nat, m.part = i := ⟨m.part.toNat, by omega⟩
 obtain ⟨k, hw⟩ : ∃ k : Nat, m.word = k := ⟨m.word.toNat, by omega⟩
 have w1 : ∀ p ∈ l, p.words.length ≤ 1000 := fun p hp => by have := hws p hp; omega
 have w2 : ∀ p ∈ l, 0 < p.words.length := fun p hp => (hws p hp).1
 by_cases hi : i < l.length
 ·have hm : m.mark = 1 ∨ m.mark = 2 ∨ m.mark = 3 ∨ m.mark = 4 ∨ m.mark = 5 ∨ m.mark = 6 ∨ m.mark = 7 := by omega
  rcases hm with hm | hm | hm | hm | hm | hm | hm
  ·exact appliedOut_s b b2 l m i k hm hp hw (by omega) w1 w2 hi
  ·exact appliedInA_s b b2 l m i k hm hp hw (by omega) w1 w2 hi
  ·exact appliedChange_s b b2 l m i k hm hp hw (by omega) w1 w2 hi
  ·exact appliedSwap_s b b2 l m i k hm hp hw (by omega) w1 w2 hi
  ·exact appliedBreak_s b b2 l m i k hm hp hw (by omega) w1
  ·exact appliedJoin_s b b2 l m i k hm hp hw (by omega) w1
  ·exact appliedTurn_s b b2 l m i k hm hp hw (by omega) w1
 ·exact appliedMiss_s b b2 l m i hp hi (by omega) w1
/-- Applied. -/
def apA (l : List Pt) (m : Mk) : List Pt × Int := if (partsErr l).2 = 0 then (if mkErr m = 0 then apV l m else ([], mkErr m)) else ([], (partsErr l).2)
theorem Applied_s (b b2 : Bool) (l : List Pt) (m : Mk) (hz : MkSz m) : Ctr Tryz.prog 33 [.sl b 2 (l.map (eP b2)), mV m] (fun rr => rr = ⟨.tup [.sl true 2 ((apA l m).1.map (eP true)), (.v (.int .i64 ((apA l m).2)))], []⟩) := by
 refine Ctr.of (rs := [.tmp 4, .tmp 5]) Tok true Tryz.func33 rfl rfl rfl rfl (by simp [ofDL]) (fun w0 kp => ?_)
 simp only [↓sx0, xE, sevalprocAttr]
 refine CallI.fn (checkCopy_s b b2 l) (by simp only [sx3, xR, sevalprocAttr] <;> (try simp) <;> (try rfl)) ?_
 simp only [↓sx0, xE, sevalprocAttr]
 refine BrW.dec (fun h0 => ?_) (fun h0 => ?_)
 ·simp only [↓sx0, xE, sevalprocAttr]
  have hv : apA l m = ([], (partsErr l).2) := by rw [apA, if_neg (by simpa using h0)]
  refine EndW.fn ?_ ?_ <;> simp only [sx4, xK, sevalprocAttr] <;> (try simp [hv]) <;> (try omega)
 ·have h0 : (partsErr l).2 = 0 := by simpa using h0
  simp only [↓sx0, xE, sevalprocAttr]
  refine CallI.fn (checkMark_s m hz) (by simp only [sx3, xR, sevalprocAttr] <;> (try simp) <;> (try rfl)) ?_
  simp only [↓sx0, xE, sevalprocAttr]
  refine BrW.dec (fun h1 => ?_) (fun h1 => ?_)
  ·simp only [↓sx0, xE, sevalprocAttr]
   have hv : apA l m = ([], mkErr m) := by rw [apA, if_pos h0, if_neg (by simpa using h1)]
   refine EndW.fn ?_ ?_ <;> simp only [sx4, xK, sevalprocAttr] <;> (try simp [hv]) <;> (try omega)
  ·have h1 : mkErr m = 0 := by simpa using h1
   simp only [↓sx0, xE, sevalprocAttr]
   refine CallI.fn (applied_s b b2 l m h0 h1) (by simp only [sx3, xR, sevalprocAttr] <;> (try simp) <;> (try rfl)) ?_
   simp only [↓sx0, xE, sevalprocAttr]
   have hv : apA l m = apV l m := by rw [apA, if_pos h0, if_pos h1]
   have hkp := kpP (apV l m).1
   refine EndW.fn ?_ ?_ <;> simp only [sx4, xK, sevalprocAttr] <;> (try simp [hv, hkp]) <;> (try omega)
end Go.Proofs.YtgcmppghjfidfaaGreatDoor
/-
 Chapter 8, walks: pairs that are kept (the table).
-/
namespace Go.Proofs.YtgcmppghjfidfaaGreatDoor
open Go Go.Vx
set_option maxRecDepth 20000
/-- the pairs that two lists have at most. -/
def lcsA (x : Int) (f : List Int → Nat) : List Int → Nat
 | [] => 0
 | y :: b => if x = y then max (max (f (y :: b)) (lcsA x f b)) (f b + 1) else max (f (y :: b)) (lcsA x f b)
def lcsL : List Int → List Int → Nat
 | [], _ => 0
 | x :: a, b => lcsA x (lcsL a) b
def tl (a b : List Int) (i j : Nat) : Int := (lcsL (a.drop i) (b.drop j) : Nat)
/-- a row of the table -/
def rowT (a b : List Int) (i : Nat) : List Int := (List.range (b.length + 1)).map fun j => tl a b i j
/-- under way, from the end on; 'v' at place j. -/
def cT (a b : List Int) (i j : Nat) : List Int := (List.range (b.length + 1)).map fun k => if j ≤ k then tl a b i k else 0
def cV (a b : List Int) (i j : Nat) (v : Int) : List Int := (List.range (b.length + 1)).map fun k => if j < k then tl a b i k else if k = j then v else 0
/-- the table, with 'x' rows still to come. -/
def tabT (a b : List Int) (x : Nat) : List (List D) := (List.range (a.length + 1)).map fun r => if x ≤ r then [.sl true 1 ((rowT a b r).map eI)] else [.v (.slice none 0 0)]
end Go.Proofs.YtgcmppghjfidfaaGreatDoor
/-
 Chapter 8, walks: pairs that are kept.
-/
namespace Go.Proofs.YtgcmppghjfidfaaGreatDoor
open Go Go.Vx
set_option maxRecDepth 20000
def eJ (p : Nat × Nat) : List D := [(.v (.int .i64 ((p.1 : Int)))), (.v (.int .i64 ((p.2 : Int))))]
/-- the first place in b from f on that is kept with place i of a. -/
def keP (a b : List Int) (i f k : Nat) : Bool := match a[i]?, b[k]? with
 | some x, some y => decide (x = y) && decide (tl a b (i + 1) (k + 1) + 1 = tl a b i f)
 | _, _ => false
def keF (a b : List Int) (i f : Nat) : Nat → Nat → Option Nat
 | 0, _ => none
 | n + 1, k => if keP a b i f k = true then some k else keF a b i f n (k + 1)
def keN (a b : List Int) (i f : Nat) : Option Nat := keF a b i f (b.length - f) f
/-- the pairs of the first i places, and where to go on. -/
def keS : (a b : List Int) → Nat → List (Nat × Nat) × Nat
 | _, _, 0 => ([], 0)
 | a, b, i + 1 => match keN a b i (keS a b i).2 with
  | none => keS a b i
  | some k => ((keS a b i).1 ++ [(i, k)], k + 1)
def keptL (a b : List Int) : List (Nat × Nat) := (keS a b a.length).1
def keptV (a b : List Int) : List (Nat × Nat) × Int := if a.length ≤ 300 ∧ b.length ≤ 300 then (keptL a b, 0) else ([], 8)
end Go.Proofs.YtgcmppghjfidfaaGreatDoor
/-
 Chapter 8, walks: edits are checked.
-/
namespace Go.Proofs.YtgcmppghjfidfaaGreatDoor
open Go Go.Vx
set_option maxRecDepth 20000
def nxOk (n : Int) (i m : Nat) : Bool := decide (n = -1) || (decide (n = i) && decide (i < m))
def nxI (n : Int) (i : Nat) : Nat := if n = -1 then i else i + 1
def edC (a b : List ByteArray) (x : Ed) (i k : Nat) : Nat := if x.fr = -1 ∨ x.to = -1 ∨ a[i]? ≠ b[k]? then 1 else 0
/-- the cost of edits, and the error, from a place on. -/
def edF (a b : List ByteArray) : List Ed → Nat → Nat → Nat → Int × Int
 | [], i, k, c => if i = a.length ∧ k = b.length then ((c : Int), 0) else (0, 14)
 | x :: l, i, k, c => if x.fr = -1 ∧ x.to = -1 then (0, 3) else if nxOk x.fr i a.length = true ∧ nxOk x.to k b.length = true then edF a b l (nxI x.fr i) (nxI x.to k) (c + edC a b x i k) else (0, 9)
structure ESt where
 n : Nat
 i : Nat
 k : Nat
 c : Nat
def edV (a b : List ByteArray) (l : List Ed) : Int × Int := if wdsErr a b = 0 then edF a b l 0 0 0 else (0, wdsErr a b)
end Go.Proofs.YtgcmppghjfidfaaGreatDoor
/-
 Chapter 8, walks: the laws are awake.
-/
namespace Go.Proofs.YtgcmppghjfidfaaGreatDoor
open Go Go.Vx
set_option maxRecDepth 20000
def foxL : List Pt := [⟨1, [⟨#[116, 104, 101]⟩, ⟨#[113, 117, 105, 99, 107]⟩, ⟨#[102, 111, 120]⟩]⟩]
def fox4 : List Pt := [⟨1, [⟨#[116, 104, 101]⟩, ⟨#[118, 101, 114, 121]⟩, ⟨#[113, 117, 105, 99, 107]⟩, ⟨#[102, 111, 120]⟩]⟩]
def inMk : Mk := ⟨2, 0, 1, ⟨#[]⟩, ⟨#[118, 101, 114, 121]⟩, 0, 0⟩
def outMk : Mk := ⟨1, 0, 3, ⟨#[102, 111, 120]⟩, ⟨#[]⟩, 0, 0⟩
def outMk2 : Mk := ⟨1, 0, 2, ⟨#[102, 111, 120]⟩, ⟨#[]⟩, 0, 0⟩
def wdsA : List ByteArray := [⟨#[116, 104, 101]⟩, ⟨#[113, 117, 105, 99, 107]⟩, ⟨#[102, 111, 120]⟩]
def wdsB : List ByteArray := [⟨#[97]⟩, ⟨#[113, 117, 105, 99, 107]⟩, ⟨#[114, 101, 100]⟩, ⟨#[102, 111, 120]⟩]
def edsL : List Ed := [⟨0, 0⟩, ⟨1, 1⟩, ⟨-1, 2⟩, ⟨2, 3⟩]
theorem fox_s : Ctr Tryz.prog 34 [] (fun rr => rr = ⟨.sl true 2 (foxL.map (eP true)), []⟩) := by
 refine Ctr.of (rs := [.tmp 0]) Tok true Tryz.func34 rfl rfl rfl rfl (by simp [ofDL]) (fun w0 kp => ?_)
 simp only [↓sx0, xE, sevalprocAttr]
 repeat ((with_reducible refine Vc.go ?_ fun _ => ?_); (focus (first | omega | (simp only [InK]; omega) | (simp [InK] <;> omega))); simp only [↓sx0, xE, sevalprocAttr])
 refine EndW.fn ?_ ?_ <;> simp only [sx4, xK, sevalprocAttr] <;> (try simp [foxL, eP, eS]) <;> (try omega)
theorem awE : (foxL = ([⟨1, [⟨#[116, 104, 101]⟩, ⟨#[113, 117, 105, 99, 107]⟩, ⟨#[102, 111, 120]⟩]⟩] : List Pt)) ∧ (fox4 = ([⟨1, [⟨#[116, 104, 101]⟩, ⟨#[118, 101, 114, 121]⟩, ⟨#[113, 117, 105, 99, 107]⟩, ⟨#[102, 111, 120]⟩]⟩] : List Pt)) ∧ (inMk = (⟨2, 0, 1, ⟨#[]⟩, ⟨#[118, 101, 114, 121]⟩, 0, 0⟩ : Mk)) ∧ (outMk = (⟨1, 0, 3, ⟨#[102, 111, 120]⟩, ⟨#[]⟩, 0, 0⟩ : Mk)) ∧ (outMk2 = (⟨1, 0, 2, ⟨#[102, 111, 120]⟩, ⟨#[]⟩, 0, 0⟩ : Mk)) ∧ (wdsA = ([⟨#[116, 104, 101]⟩, ⟨#[113, 117, 105, 99, 107]⟩, ⟨#[102, 111, 120]⟩] : List ByteArray)) ∧ (wdsB = ([⟨#[97]⟩, ⟨#[113, 117, 105, 99, 107]⟩, ⟨#[114, 101, 100]⟩, ⟨#[102, 111, 120]⟩] : List ByteArray)) ∧ (edsL = ([⟨0, 0⟩, ⟨1, 1⟩, ⟨-1, 2⟩, ⟨2, 3⟩] : List Ed)) := ⟨rfl, rfl, rfl, rfl, rfl, rfl, rfl, rfl⟩
end Go.Proofs.YtgcmppghjfidfaaGreatDoor
