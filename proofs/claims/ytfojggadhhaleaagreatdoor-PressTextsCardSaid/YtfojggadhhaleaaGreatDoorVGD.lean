/-
  Chapter 9, walks: the best order.
-/
import Derived.Test.YtfojggadhhaleaaGreatDoorVGC
import Derived.Test.YtfojggadhhaleaaGreatDoorVGB
namespace Go.Proofs.YtfojggadhhaleaaGreatDoor
open Go Go.Vx
set_option linter.unusedSimpArgs false
set_option linter.unusedVariables false
set_option maxRecDepth 20000
theorem ordL_mem {n : Nat} : ∀ (m : Nat) (head : List Int) (o : List Int), o ∈ ordL n m head → o.length = head.length + m ∧ (∀ a ∈ o, a ∈ head ∨ (0 ≤ a ∧ a < (n : Int))) ∧ (head.Nodup → o.Nodup)
  | 0, head, o, h => by
    simp only [ordL, List.mem_singleton] at h
    subst h
    exact ⟨rfl, fun a ha => .inl ha, fun h => h⟩
  | m + 1, head, o, h => by
    simp only [ordL, List.mem_flatMap, List.mem_range] at h
    obtain ⟨i, hi, h⟩ := h
    split at h
    · cases h
    · rename_i hin
      obtain ⟨h1, h2, h3⟩ := ordL_mem m _ o h
      refine ⟨by rw [h1]; simp; omega, fun a ha => ?_, fun hd => h3 ?_⟩
      · rcases h2 a ha with h4 | h4
        · rcases List.mem_append.1 h4 with h5 | h5
          · exact .inl h5
          · rw [List.mem_singleton] at h5; subst h5; exact .inr (by omega)
        · exact .inr h4
      · have hin : (i : Int) ∉ head := by rwa [memB_iff] at hin
        simp only [List.nodup_append, List.nodup_cons, List.not_mem_nil, not_false_eq_true, List.nodup_nil, and_self, true_and, List.mem_singleton]
        exact ⟨hd, fun a ha b hb e => hin (by rw [← hb, ← e]; exact ha)⟩
/-- the best order so far: its minutes, it, whether there is one. -/
structure Bst where
  minutes : Int
  order : List Int
  any : Bool
def bst1 (c : Cols) (s : Bst) (o : List Int) : Bst := if (!(allE c o).barred && decide (endB (allE c o) < s.minutes)) = true then ⟨endB (allE c o), o, true⟩ else s
def bst (c : Cols) (os : List (List Int)) : Bst := os.foldl (bst1 c) ⟨1000000, [], false⟩
def ordA (c : Cols) : List (List Int) := ordL c.minutes.length c.minutes.length []
def bstO (c : Cols) : Bst := bst c (ordA c)
def treeB (c : Cols) : List Nd := growE c (bstO c).minutes c.minutes.length g0 []
def bestV (c : Cols) : SV := if colErr c = 0 then .tup [.sl true 1 (if (bstO c).any = true then (bstO c).order.map eI else []), (.v (.int .i64 (if (bstO c).any = true then (bstO c).minutes else 0))), .sl true 2 ((treeB c).map eM), (.v (.int .i64 (if (bstO c).any = true then 0 else 12)))]
  else .tup [.sl true 1 [], (.v (.int .i64 0)), .sl true 2 [], (.v (.int .i64 (colErr c)))]
theorem kpM (x : Nd) : kpL (eM x) := ⟨trivial, kpO _, trivial⟩
theorem nB_le : ∀ f, f ≤ 6 → nB f ≤ 60000
  | 0, _ => by decide
  | 1, _ => by decide
  | 2, _ => by decide
  | 3, _ => by decide
  | 4, _ => by decide
  | 5, _ => by decide
  | 6, _ => by decide
  | n + 7, h => by omega
def bstK (c : Cols) (k : Nat) : Bst := bst c ((ordA c).take k)
theorem bstK_succ {c : Cols} {k : Nat} (h : k < (ordA c).length) : bstK c (k + 1) = bst1 c (bstK c k) (ordA c)[k] := by
  unfold bstK bst
  rw [List.take_succ_eq_append_getElem h, List.foldl_append]; rfl
theorem bestOrder_s (b1 b2 b3 : Bool) (c : Cols) (hd : ∀ r ∈ c.dry, r.length ≤ 1000000000) : Ctr Tryz.prog 16 [cV true true true c] (fun rr => rr = ⟨bestV c, []⟩) := by
  have encs := And.intro (And.intro (And.intro (And.intro encs kpM) (And.intro gV_eq gC_eq)) sxMut) (show ∀ head n, ordC head n = [.pt true [.sl true 1 (head.map eI)], .pt true [.v (.int .i64 n)]] from fun _ _ => rfl)
  refine Ctr.of (rs := [.tmp 2, .tmp 3, .tmp 4, .tmp 5]) Tok true Tryz.func16 rfl rfl rfl rfl (by simp [ofDL]) (fun w0 kp => ?_)
  simp only [↓sx0, sxE, encs, sevalprocAttr]
  refine CallI.fn (checkColours_s true true true c hd) (by simp only [sx3, encs, sxR, sevalprocAttr] <;> (try simp) <;> (try rfl)) ?_
  simp only [↓sx0, sxE, encs, sevalprocAttr]
  refine BrW.dec (fun h1 => ?_) (fun h1 => ?_)
  · simp only [↓sx0, sxE, encs, sevalprocAttr]
    have h1 : ¬ colErr c = 0 := h1
    rw [show bestV c = .tup [.sl true 1 [], (.v (.int .i64 0)), .sl true 2 [], (.v (.int .i64 (colErr c)))] by rw [bestV, if_neg h1]]
    refine EndW.fn ?_ ?_ <;> simp only [sx4, encs, kpLL_map, sxR, sevalprocAttr] <;> (try simp) <;> (try omega)
  · simp only [↓sx0, sxE, encs, sevalprocAttr]
    have h1 : colErr c = 0 := Decidable.not_not.1 h1
    have hc := colErr_ok h1
    have hn := hc.n
    refine CallI.fn (orders_s [] (c.minutes.length : Int)) (by simp only [sx3, encs, sxR, sevalprocAttr] <;> (try simp) <;> (try rfl)) ?_
    simp only [↓sx0, sxE, encs, sevalprocAttr]
    have hit := ordersIt_s c.minutes.length (by omega) c.minutes.length [] (by simp)
    have hA : ordL c.minutes.length c.minutes.length [] = ordA c := rfl
    rw [hA] at hit
    have encs := And.intro (And.intro encs (show ∀ o, eO o = [.sl true 1 (o.map eI)] from fun _ => rfl)) (show bstK c 0 = ⟨1000000, [], false⟩ from rfl)
    refine RangeW.it Tok (fun _ => rfl) (fun hro => by first | rfl | exact (by rw [hro] at *; contradiction)) (hit) [(1, .box 0 0), (7, .box 2 0), (8, .box 3 0), (9, .box 4 0), (24, .clo 68 (ordC [] (c.minutes.length : Int)))] (fun ys => [some ⟨55, [.sl true 1 (c.minutes.map eI), .sl true 1 (c.dry.map (eIB true))]⟩, some ⟨95, [.sl true 1 (c.minutes.map eI), .sl true 1 (c.dry.map (eIB true)), (.v (.int .i64 ((bstK c ys.length).minutes))), .v (.slice none 0 0)]⟩, some ⟨91, [.box 1 0]⟩, some ⟨49, [.sl true 1 ((bstK c ys.length).order.map eI)]⟩, some ⟨4, [.v (.bool (bstK c ys.length).any)]⟩]) (fun ys => []) (fun _ => True) trivial (by simp only [sx2, encs, sxR, sevalprocAttr] <;> (try simp) <;> (try omega)) rfl rfl (by simp [eO]) ?_ (fun hJall => ?_)
    · rintro pre d hpre - ρ σ μ ho' hy hs
      obtain ⟨q, hq⟩ := hpre
      have hk : pre.length < (ordA c).length := by
        have := congrArg List.length hq
        simp at this; omega
      have hd : d = eO (ordA c)[pre.length] := by
        have : ((ordA c).map eO)[pre.length]? = some d := by rw [← hq]; simp
        simpa [List.getElem?_eq_getElem hk, eq_comm] using this
      subst hd
      obtain ⟨ho1, ho2, ho3⟩ := ordL_mem _ _ _ (show (ordA c)[pre.length] ∈ ordL c.minutes.length c.minutes.length [] from List.getElem_mem hk)
      obtain ⟨yd', ro, mks, fr, lp, sz⟩ := ho'
      have hob : ∀ a ∈ (ordA c)[pre.length], 0 ≤ a ∧ a < (c.minutes.length : Int) := fun a ha => by
        rcases ho2 a ha with h | h
        · cases h
        · exact h
      have hol : (ordA c)[pre.length].length = c.minutes.length := by simpa using ho1
      have hok := allE_ok hc hob (ordA c)[pre.length].length (Nat.le_refl _)
      rw [List.take_length] at hok
      have hsu := bstK_succ hk
      have hle := hok.le
      simp only [↓sx0, sxE, encs, sevalprocAttr]
      intro fr'
      refine CallI.fn (all_s true true true true c (ordA c)[pre.length] hc (by omega) hob) (by simp only [sx3, encs, sxR, sevalprocAttr] <;> (try simp) <;> (try rfl)) ?_
      simp only [↓sx0, sxE, encs, sevalprocAttr]
      refine DrawW.plan Tok mixed (.q 0 <| .q 1 <| .q 2 <| .q 3 <| .q 4 <| .q 6 <| .q 7 <| .q 8 <| .q 9 <| .e 5 [6, 9] <| .q 10 <| .q 11 <| .done) (by kernel_rfl) (by kernel_rfl) ?_
      simp only [↓sx0, sxE, encs, sevalprocAttr]
      refine BrW.of (fun hb => ?_) (fun hb => ?_)
      · have hb' : (allE c (ordA c)[pre.length]).barred = true := by simpa using hb
        have he : bstK c (pre.length + 1) = bstK c pre.length := by rw [hsu, bst1, hb']; rfl
        simp only [↓sx0, sxE, encs, sevalprocAttr]
        rw [he]
        simp only [sx2, encs, sxR, sevalprocAttr] <;> (try simp) <;> (try omega)
      · have hb' : (allE c (ordA c)[pre.length]).barred = false := by simpa using hb
        simp only [↓sx0, sxE, encs, sevalprocAttr]
        refine CallI.fn (end_s true true (allE c (ordA c)[pre.length]) (by omega)) (by simp only [sx3, encs, sxR, sevalprocAttr] <;> (try simp) <;> (try rfl)) ?_
        simp only [↓sx0, sxE, encs, sevalprocAttr]
        refine BrW.dec (fun h2 => ?_) (fun h2 => ?_)
        · have he : bstK c (pre.length + 1) = ⟨endB (allE c (ordA c)[pre.length]), (ordA c)[pre.length], true⟩ := by rw [hsu, bst1, hb']; simp [h2]
          simp only [↓sx0, sxE, encs, sevalprocAttr]
          refine DrawW.plan Tok mixed (.q 0 <| .q 1 <| .q 2 <| .e 3 [0] <| .e 4 [0] <| .q 5 <| .q 6 <| .e 7 [] <| .e 8 [] <| .done) (by kernel_rfl) (by kernel_rfl) ?_
          simp only [↓sx0, sxE, encs, sevalprocAttr]
          refine CallI.fn (end_s true true (allE c (ordA c)[pre.length]) (by omega)) (by simp only [sx3, encs, sxR, sevalprocAttr] <;> (try simp) <;> (try rfl)) ?_
          simp only [↓sx0, sxE, encs, sevalprocAttr]
          rw [he]
          simp only [sx2, encs, sxR, sevalprocAttr] <;> (try simp) <;> (try omega)
        · have he : bstK c (pre.length + 1) = bstK c pre.length := by rw [hsu, bst1, hb']; simp [h2]
          simp only [↓sx0, sxE, encs, sevalprocAttr]
          rw [he]
          simp only [sx2, encs, sxR, sevalprocAttr] <;> (try simp) <;> (try omega)
    · have hbl : bstK c ((ordA c).map eO).length = bstO c := by rw [List.length_map]; simp [bstK, bstO]
      rw [hbl]
      have hg := grow_s c (bstO c).minutes hc c.minutes.length g0 0 [] (g0_ok c) (by omega) List.nodup_nil (by have := nB_le c.minutes.length hn; simp; omega)
      unfold GrowS at hg
      simp only [↓sx0, sxE, encs, sevalprocAttr]
      refine CallI.ctrM (k := 1) (γ := [none]) (hg) rfl (by simp only [sx2, encs, List.map_cons, List.map_nil, sxR, sevalprocAttr] <;> (try simp [g0])) (by simp) (by simp only [sx2, encs, List.map_cons, List.map_nil, sxR, sevalprocAttr] <;> (try simp [g0])) (by simp only [sx2, encs, List.map_cons, List.map_nil, sxR, sevalprocAttr] <;> (try simp [g0])) (noGhB_spec rfl) ?_
      rintro _ _ _ ⟨rfl, rfl, rfl⟩
      simp only [↓sx0, sxE, encs, sevalprocAttr]
      refine BrW.of (fun ha => ?_) (fun ha => ?_)
      · simp only [↓sx0, sxE, encs, sevalprocAttr]
        rw [show bestV c = .tup [.sl true 1 ((bstO c).order.map eI), (.v (.int .i64 ((bstO c).minutes))), .sl true 2 ((treeB c).map eM), (.v (.int .i64 0))] by rw [bestV, if_pos h1, ha]; rfl]
        refine DrawW.plan Tok mixed (.q 0 <| .q 1 <| .q 2 <| .q 3 <| .q 4 <| .q 5 <| .q 6 <| .q 7 <| .q 8 <| .q 9 <| .q 10 <| .q 11 <| .q 12 <| .done) (by kernel_rfl) (by kernel_rfl) ?_
        simp only [↓sx0, sxE, encs, sevalprocAttr]
        refine EndW.fn ?_ ?_ <;> simp only [sx4, encs, kpLL_map, sxR, sevalprocAttr] <;> (try simp [treeB]) <;> (try omega)
      · simp only [↓sx0, sxE, encs, sevalprocAttr]
        rw [show bestV c = .tup [.sl true 1 [], (.v (.int .i64 0)), .sl true 2 ((treeB c).map eM), (.v (.int .i64 12))] by rw [bestV, if_pos h1, ha]; rfl]
        refine DrawW.plan Tok mixed (.q 0 <| .q 1 <| .q 2 <| .q 3 <| .q 4 <| .q 5 <| .q 6 <| .q 7 <| .done) (by kernel_rfl) (by kernel_rfl) ?_
        simp only [↓sx0, sxE, encs, sevalprocAttr]
        refine EndW.fn ?_ ?_ <;> simp only [sx4, encs, kpLL_map, sxR, sevalprocAttr] <;> (try simp [treeB]) <;> (try omega)
end Go.Proofs.YtfojggadhhaleaaGreatDoor
/-
  Chapter 9, walks: jobs are right.
-/
namespace Go.Proofs.YtfojggadhhaleaaGreatDoor
open Go Go.Vx
set_option linter.unusedSimpArgs false
set_option linter.unusedVariables false
set_option maxRecDepth 20000
def nmF (j : Job) : Bool := decide (0 ≤ j.ready ∧ j.ready ≤ 10000000) && decide (0 ≤ j.due ∧ j.due ≤ 10000000) && decide (1 ≤ j.minutes ∧ j.minutes ≤ 10000)
def jobsE : List ByteArray → List Job → Int
  | _, [] => 0
  | seen, j :: l => if isNm j.name = false then 4 else if memB j.name seen = true then 5 else if nmF j = false then 2 else jobsE (j.name :: seen) l
def jobsErr (l : List Job) : Int := if l.length = 0 then 10 else if 20 < l.length then 8 else jobsE [] l
def sawM : List ByteArray → List (ByteArray × Bool)
  | [] => []
  | a :: l => upd a true (sawM l)
theorem sawM_luk (a : ByteArray) : ∀ l, luk a (sawM l) = if memB a l = true then some true else none
  | [] => rfl
  | b :: l => by
    rw [sawM, luk_upd, sawM_luk a l]
    by_cases h : b = a
    · simp [h, memB]
    · have h2 : memB a (b :: l) = memB a l := by simp [memB, h]
      rw [h2]; simp [h]
theorem sawM_get (a : ByteArray) (l : List ByteArray) : (luk a (sawM l)).getD false = memB a l := by
  rw [sawM_luk]
  cases memB a l <;> rfl
def sawK (l : List Job) (k : Nat) : List ByteArray := ((l.take k).map (·.name)).reverse
theorem sawK_succ {l : List Job} {k : Nat} (h : k < l.length) : sawK l (k + 1) = l[k].name :: sawK l k := by
  unfold sawK
  rw [List.take_succ_eq_append_getElem h, List.map_append, List.reverse_append]; rfl
theorem jobsE_at {l : List Job} {k : Nat} (h : k < l.length) {s : List ByteArray} : jobsE s (l.drop k) = if isNm l[k].name = false then 4 else if memB l[k].name s = true then 5 else if nmF l[k] = false then 2 else jobsE (l[k].name :: s) (l.drop (k + 1)) := by
  rw [List.drop_eq_getElem_cons h]
  simp only [jobsE]
theorem checkJobs_s (b : Bool) (l : List Job) : Ctr Tryz.prog 47 [.sl b 4 (l.map eJ)] (fun rr => rr = ⟨(.v (.int .i64 (jobsErr l))), []⟩) := by
  have encs := And.intro (And.intro encs maps) sawM_get
  refine Ctr.of (rs := [.tmp 2]) Tok true Tryz.func47 rfl rfl rfl rfl (by simp [ofDL]) (fun w0 kp => ?_)
  simp only [↓sx0, sxE, encs, sevalprocAttr]
  refine BrW.dec (fun h1 => ?_) (fun h1 => ?_)
  · simp only [↓sx0, sxE, encs, sevalprocAttr]
    rw [show jobsErr l = 10 by rw [jobsErr, if_pos (by omega)]]
    refine EndW.fn ?_ ?_ <;> simp only [sx4, encs, kpLL_map, sxR, sevalprocAttr] <;> (try simp) <;> (try omega)
  · simp only [↓sx0, sxE, encs, sevalprocAttr]
    refine BrW.dec (fun h2 => ?_) (fun h2 => ?_)
    · simp only [↓sx0, sxE, encs, sevalprocAttr]
      have h2' : 20 < l.length := by omega
      rw [show jobsErr l = 8 by rw [jobsErr, if_neg (by omega), if_pos h2']]
      refine EndW.fn ?_ ?_ <;> simp only [sx4, encs, kpLL_map, sxR, sevalprocAttr] <;> (try simp) <;> (try omega)
    · simp only [↓sx0, sxE, encs, sevalprocAttr]
      have h2' : ¬ 20 < l.length := by omega
      have hj : jobsErr l = jobsE [] l := by rw [jobsErr, if_neg (by omega), if_neg h2']
      rw [hj]
      refine LoopW.comp [3, 15, 16, 17] (by simp only [sx2, encs, sxR, sevalprocAttr] <;> (try simp) <;> (try omega)) ?_
      simp only [sx2, sxR, sevalprocAttr]
      refine LoopW.up Tok (fun k : Nat => [(17, (.v (.int .i64 k)))]) (fun k => []) (fun k => [(0, (sawM (sawK l k)).map eSB)]) (fun k => []) (fun k => k ≤ l.length ∧ jobsE (sawK l k) (l.drop k) = jobsE [] l) (fun k => l.length - k) (0) (by simp only [sx2, encs, sxR, sevalprocAttr] <;> (try simp [sawK, sawM, encs]) <;> (try omega)) ?_ ?_
      · exact ⟨by omega, rfl⟩
      rintro k ⟨hk, hJ⟩
      simp only [↓sx0, sxE, encs, sevalprocAttr]
      refine BrW.dec (fun hlt => ?_) (fun hlt => ?_)
      · simp only [↓sx0, sxE, encs, sevalprocAttr]
        have hlt : k < l.length := by omega
        refine IxW.nat hlt ?_
        rw [jobsE_at hlt] at hJ
        simp only [↓sx0, sxE, encs, sevalprocAttr]
        refine CallI.fn (isName_s l[k].name) (by simp only [sx3, encs, sxR, sevalprocAttr] <;> (try simp) <;> (try rfl)) ?_
        simp only [↓sx0, sxE, encs, sevalprocAttr]
        refine BrW.of (fun hnm => ?_) (fun hnm => ?_)
        · simp only [↓sx0, sxE, encs, sevalprocAttr]
          rw [if_neg (by rw [hnm]; decide)] at hJ
          refine BrW.of (fun hsn => ?_) (fun hsn => ?_)
          · simp only [↓sx0, sxE, encs, sevalprocAttr]
            rw [if_pos hsn] at hJ
            refine EndW.fn ?_ ?_ <;> simp only [sx4, encs, kpLL_map, sxR, sevalprocAttr] <;> (try simp [hJ.symm]) <;> (try omega)
          · simp only [↓sx0, sxE, encs, sevalprocAttr]
            rw [if_neg (by rw [hsn]; decide)] at hJ
            refine CallI.fn (within_s l[k].ready 0 10000000) (by simp only [sx3, encs, sxR, sevalprocAttr] <;> (try simp) <;> (try rfl)) ?_
            simp only [↓sx0, sxE, encs, sevalprocAttr]
            refine BrW.of (fun q1 => ?_) (fun q1 => ?_)
            · simp only [↓sx0, sxE, encs, sevalprocAttr]
              refine CallI.fn (within_s l[k].due 0 10000000) (by simp only [sx3, encs, sxR, sevalprocAttr] <;> (try simp) <;> (try rfl)) ?_
              simp only [↓sx0, sxE, encs, sevalprocAttr]
              refine BrW.of (fun q2 => ?_) (fun q2 => ?_)
              · simp only [↓sx0, sxE, encs, sevalprocAttr]
                refine CallI.fn (within_s l[k].minutes 1 10000) (by simp only [sx3, encs, sxR, sevalprocAttr] <;> (try simp) <;> (try rfl)) ?_
                simp only [↓sx0, sxE, encs, sevalprocAttr]
                refine BrW.of (fun q3 => ?_) (fun q3 => ?_)
                · simp only [↓sx0, sxE, encs, sevalprocAttr]
                  rw [if_neg (by simp [nmF, q1, q2, q3])] at hJ
                  rw [← sawK_succ hlt] at hJ
                  repeat ((with_reducible refine Vc.go ?_ fun _ => ?_); (focus (first | omega | (simp only [InK]; omega) | (simp [InK]; done) | (simp [InK]; omega))); simp only [↓sx0, sxE, encs, sevalprocAttr])
                  refine ⟨k + 1, StLe.auto (by simp only [sx2, encs, sxR, sevalprocAttr] <;> (try simp [sawK_succ hlt, sawM, encs]) <;> (try omega)), ?_, ?_⟩
                  · exact ⟨by omega, hJ⟩
                  · omega
                · simp only [↓sx0, sxE, encs, sevalprocAttr]
                  rw [if_pos (by simp [nmF, q3])] at hJ
                  refine EndW.fn ?_ ?_ <;> simp only [sx4, encs, kpLL_map, sxR, sevalprocAttr] <;> (try simp [hJ.symm]) <;> (try omega)
              · simp only [↓sx0, sxE, encs, sevalprocAttr]
                rw [if_pos (by simp [nmF, q2])] at hJ
                refine EndW.fn ?_ ?_ <;> simp only [sx4, encs, kpLL_map, sxR, sevalprocAttr] <;> (try simp [hJ.symm]) <;> (try omega)
            · simp only [↓sx0, sxE, encs, sevalprocAttr]
              rw [if_pos (by simp [nmF, q1])] at hJ
              refine EndW.fn ?_ ?_ <;> simp only [sx4, encs, kpLL_map, sxR, sevalprocAttr] <;> (try simp [hJ.symm]) <;> (try omega)
        · simp only [↓sx0, sxE, encs, sevalprocAttr]
          rw [if_pos hnm] at hJ
          refine EndW.fn ?_ ?_ <;> simp only [sx4, encs, kpLL_map, sxR, sevalprocAttr] <;> (try simp [hJ.symm]) <;> (try omega)
      · simp only [↓sx0, sxE, encs, sevalprocAttr]
        have hke : k = l.length := by omega
        subst hke
        rw [List.drop_length] at hJ
        refine EndW.fn ?_ ?_ <;> simp only [sx4, encs, kpLL_map, sxR, sevalprocAttr] <;> (try simp [jobsE, hJ.symm]) <;> (try omega)
end Go.Proofs.YtfojggadhhaleaaGreatDoor
/-
  Chapter 9, walks: lateness; the bound of a set.
-/
namespace Go.Proofs.YtfojggadhhaleaaGreatDoor
open Go Go.Vx
set_option linter.unusedSimpArgs false
set_option linter.unusedVariables false
set_option maxRecDepth 20000
theorem modI (l : List Int) (i : Nat) (v : Int) : (l.map eI).modify i (fun x => modE x 0 [.v (.int .i64 v)]) = (l.set i v).map eI := by
  induction l generalizing i with
  | nil => simp
  | cons a l ih =>
    cases i with
    | zero => simp [modE, eI]
    | succ i => simpa using ih i
theorem repI (n : Nat) : List.replicate n [D.v (.int .i64 0)] = (List.replicate n (0 : Int)).map eI := by simp [eI]
theorem repI2 (n : Nat) : List.replicate ((n : Int)).toNat [D.v (.int .i64 0)] = (List.replicate n (0 : Int)).map eI := by simp [eI]
/-- Jobs of a right kind. -/
structure JobsOk (l : List Job) : Prop where
  n0 : 0 < l.length
  n : l.length ≤ 20
  ready : ∀ j ∈ l, 0 ≤ j.ready ∧ j.ready ≤ 10000000
  due : ∀ j ∈ l, 0 ≤ j.due ∧ j.due ≤ 10000000
  minutes : ∀ j ∈ l, 1 ≤ j.minutes ∧ j.minutes ≤ 10000
theorem jobsE_zero : ∀ {l : List Job} {s : List ByteArray}, jobsE s l = 0 → ∀ j ∈ l, nmF j = true
  | [], _, _, j, h => absurd h (List.not_mem_nil)
  | x :: l, s, h, j, hj => by
    simp only [jobsE] at h
    split at h
    · cases h
    · split at h
      · cases h
      · split at h
        · cases h
        · rename_i h3
          rcases List.mem_cons.1 hj with rfl | hj
          · simpa using h3
          · exact jobsE_zero h j hj
theorem jobsErr_ok {l : List Job} (h : jobsErr l = 0) : JobsOk l := by
  unfold jobsErr at h
  split at h
  · cases h
  · rename_i h1
    split at h
    · cases h
    · rename_i h2
      have key := jobsE_zero h
      have k2 : ∀ j ∈ l, (0 ≤ j.ready ∧ j.ready ≤ 10000000) ∧ (0 ≤ j.due ∧ j.due ≤ 10000000) ∧ (1 ≤ j.minutes ∧ j.minutes ≤ 10000) := fun j hj => by
        have := key j hj
        simp only [nmF, Bool.and_eq_true, decide_eq_true_eq] at this
        exact ⟨this.1.1, this.1.2, this.2⟩
      exact ⟨by omega, by omega, fun j hj => (k2 j hj).1, fun j hj => (k2 j hj).2.1, fun j hj => (k2 j hj).2.2⟩
def SlOk (n : Nat) (t : Slot) : Prop := (0 ≤ t.job ∧ t.job < (n : Int)) ∧ (0 ≤ t.start ∧ t.start ≤ 1000000000) ∧ (0 ≤ t.minutes ∧ t.minutes ≤ 1000000000)
def endsK (n : Nat) (l : List Slot) (k : Nat) : List Int := (l.take k).foldl (fun e t => e.set t.job.toNat (t.start + t.minutes)) (List.replicate n 0)
theorem endsK_succ {n : Nat} {l : List Slot} {k : Nat} (h : k < l.length) : endsK n l (k + 1) = (endsK n l k).set l[k].job.toNat (l[k].start + l[k].minutes) := by
  unfold endsK
  rw [List.take_succ_eq_append_getElem h, List.foldl_append]; rfl
theorem endsK_len (n : Nat) (l : List Slot) : ∀ k, k ≤ l.length → (endsK n l k).length = n
  | 0, _ => by simp [endsK]
  | k + 1, h => by rw [endsK_succ h, List.length_set]; exact endsK_len n l k (by omega)
theorem endsK_b {n : Nat} {l : List Slot} (hl : ∀ t ∈ l, SlOk n t) : ∀ k, k ≤ l.length → ∀ e ∈ endsK n l k, 0 ≤ e ∧ e ≤ 2000000000
  | 0, _, e, he => by
    simp [endsK] at he; omega
  | k + 1, h, e, he => by
    rw [endsK_succ h] at he
    rcases List.mem_or_eq_of_mem_set he with he | rfl
    · exact endsK_b hl k (by omega) e he
    · have := hl _ (List.getElem_mem h)
      unfold SlOk at this; omega
/-- how late each job is. -/
def lateL (l : List Job) (e : List Int) : List Int := (e.zip l).map fun p => p.1 - p.2.due
def worK (v : List Int) : Nat → Nat
  | 0 => 0
  | k + 1 => if v.getD (worK v k) 0 < v.getD k 0 then k else worK v k
theorem worK_lt {v : List Int} : ∀ k, worK v k ≤ k ∧ (0 < k → worK v k < k)
  | 0 => ⟨Nat.le_refl _, fun h => absurd h (Nat.lt_irrefl _)⟩
  | k + 1 => by
    have := worK_lt (v := v) k
    simp only [worK]
    split <;> omega
def lateV (l : List Job) (s : List Slot) : SV := .tup [(.v (.int .i64 ((lateL l (endsK l.length s s.length)).getD (worK (lateL l (endsK l.length s s.length)) l.length) 0))), (.v (.int .i64 (worK (lateL l (endsK l.length s s.length)) l.length)))]
theorem lateness_s (b1 b2 : Bool) (l : List Job) (s : List Slot) (h : JobsOk l) (hs : ∀ t ∈ s, SlOk l.length t) (hsl : s.length ≤ 1000000000) : Ctr Tryz.prog 49 [.sl b1 4 (l.map eJ), .sl b2 3 (s.map eT)] (fun rr => rr = ⟨lateV l s, []⟩) := by
  have hn0 := h.n0
  have hn := h.n
  have encs0 := encs
  have encs := And.intro encs (And.intro repI repI2)
  refine Ctr.of (rs := [.tmp 4, .tmp 5]) Tok true Tryz.func49 rfl rfl rfl rfl (by simp [ofDL]) (fun w0 kp => ?_)
  simp only [↓sx0, sxE, encs, sevalprocAttr]
  repeat ((with_reducible refine Vc.go ?_ fun _ => ?_); (focus (first | omega | (simp only [InK]; omega) | (simp [InK]; done) | (simp [InK]; omega))); simp only [↓sx0, sxE, encs, sevalprocAttr])
  replace encs := encs0
  refine LoopW.comp [0, 6, 15, 16, 17] (by simp only [sx2, encs, sxR, sevalprocAttr] <;> (try simp) <;> (try omega)) ?_
  simp only [sx2, sxR, sevalprocAttr]
  refine LoopW.up Tok (fun k : Nat => [(17, (.v (.int .i64 k)))]) (fun k => []) (fun k => [(0, (endsK l.length s k).map eI)]) (fun k => []) (fun k => k ≤ s.length) (fun k => s.length - k) (0) (by simp only [sx2, encs, sxR, sevalprocAttr] <;> (try simp [endsK, encs]) <;> (try omega)) ?_ ?_
  · omega
  rintro k hk
  simp only [↓sx0, sxE, encs, sevalprocAttr]
  refine BrW.dec (fun hlt => ?_) (fun hlt => ?_)
  · simp only [↓sx0, sxE, encs, sevalprocAttr]
    have hlt : k < s.length := by omega
    refine IxW.nat hlt ?_
    have ho := hs _ (List.getElem_mem hlt)
    unfold SlOk at ho
    have hel := endsK_len l.length s k hk
    simp only [↓sx0, sxE, encs, sevalprocAttr]
    repeat ((with_reducible refine Vc.go ?_ fun _ => ?_); (focus (first | omega | (simp only [InK]; omega) | (simp [InK]; done) | (simp [InK]; omega))); simp only [↓sx0, sxE, encs, sevalprocAttr])
    refine ⟨k + 1, StLe.auto (by simp only [sx2, encs, sxR, sevalprocAttr] <;> (try simp [endsK_succ hlt, modI, encs]) <;> (try omega)), ?_, ?_⟩
    · omega
    · omega
  · simp only [↓sx0, sxE, encs, sevalprocAttr]
    have hke : k = s.length := by omega
    subst hke
    have hel := endsK_len l.length s s.length (Nat.le_refl _)
    have heb := endsK_b hs s.length (Nat.le_refl _)
    have hV : lateV l s = .tup [(.v (.int .i64 ((lateL l (endsK l.length s s.length)).getD (worK (lateL l (endsK l.length s s.length)) l.length) 0))), (.v (.int .i64 (worK (lateL l (endsK l.length s s.length)) l.length)))] := rfl
    rw [hV]
    clear hV
    generalize endsK l.length s s.length = E at *
    have hVk : ∀ k (h1 : k < E.length) (h2 : k < l.length), (lateL l E).getD k 0 = E[k] - l[k].due := fun k h1 h2 => by
      have hz : k < (E.zip l).length := by simp; omega
      simp only [lateL, List.getD_eq_getElem?_getD, List.getElem?_map, List.getElem?_eq_getElem hz, List.getElem_zip]; rfl
    generalize lateL l E = V at *
    refine LoopW.comp [0, 6, 9, 31, 32, 33] (by simp only [sx2, encs, sxR, sevalprocAttr] <;> (try simp) <;> (try omega)) ?_
    simp only [sx2, sxR, sevalprocAttr]
    refine LoopW.up Tok (fun k : Nat => [(9, (.v (.int .i64 (worK V k)))), (33, (.v (.int .i64 k)))]) (fun k => []) (fun k => []) (fun k => []) (fun k => k ≤ l.length) (fun k => l.length - k) (0) (by simp only [sx2, encs, sxR, sevalprocAttr] <;> (try simp [worK, encs]) <;> (try omega)) ?_ ?_
    · omega
    rintro k hk
    simp only [↓sx0, sxE, encs, sevalprocAttr]
    refine BrW.dec (fun hlt => ?_) (fun hlt => ?_)
    · simp only [↓sx0, sxE, encs, sevalprocAttr]
      have hlt : k < l.length := by omega
      have hw : worK V k < l.length := by have := worK_lt (v := V) k; omega
      have hEk : k < E.length := by omega
      have hEw : worK V k < E.length := by omega
      refine IxW.nat hlt ?_
      simp only [↓sx0, sxE, encs, sevalprocAttr]
      have bk := heb _ (List.getElem_mem hEk)
      have bw := heb _ (List.getElem_mem hEw)
      have dk := h.due _ (List.getElem_mem hlt)
      have dw := h.due _ (List.getElem_mem hw)
      refine DrawW.plan Tok mixed (.q 0 <| .q 1 <| .q 2 <| .q 3 <| .q 4 <| .q 5 <| .q 6 <| .q 7 <| .q 8 <| .q 9 <| .q 10 <| .q 11 <| .q 12 <| .q 13 <| .q 14 <| .q 15 <| .q 16 <| .q 17 <| .done) (by kernel_rfl) (by kernel_rfl) ?_
      simp only [↓sx0, sxE, encs, sevalprocAttr]
      repeat ((with_reducible refine Vc.go ?_ fun _ => ?_); (focus (first | omega | (simp only [InK]; omega) | (simp [InK]; done) | (simp [InK]; omega))); simp only [↓sx0, sxE, encs, sevalprocAttr])
      refine IxW.nat hEk ?_
      simp only [↓sx0, sxE, encs, sevalprocAttr]
      repeat ((with_reducible refine Vc.go ?_ fun _ => ?_); (focus (first | omega | (simp only [InK]; omega) | (simp [InK]; done) | (simp [InK]; omega))); simp only [↓sx0, sxE, encs, sevalprocAttr])
      refine IxW.nat hEw ?_
      simp only [↓sx0, sxE, encs, sevalprocAttr]
      refine IxW.nat hw ?_
      simp only [↓sx0, sxE, encs, sevalprocAttr]
      repeat ((with_reducible refine Vc.go ?_ fun _ => ?_); (focus (first | omega | (simp only [InK]; omega) | (simp [InK]; done) | (simp [InK]; omega))); simp only [↓sx0, sxE, encs, sevalprocAttr])
      have v1 := hVk k hEk hlt
      have v2 := hVk (worK V k) hEw hw
      refine BrW.dec (fun hgt => ?_) (fun hgt => ?_)
      · have he : worK V (k + 1) = k := by simp only [worK]; rw [if_pos (by omega)]
        simp only [↓sx0, sxE, encs, sevalprocAttr]
        repeat ((with_reducible refine Vc.go ?_ fun _ => ?_); (focus (first | omega | (simp only [InK]; omega) | (simp [InK]; done) | (simp [InK]; omega))); simp only [↓sx0, sxE, encs, sevalprocAttr])
        refine ⟨k + 1, StLe.auto (by simp only [sx2, encs, sxR, sevalprocAttr] <;> (try simp [he, encs]) <;> (try omega)), ?_, ?_⟩
        · omega
        · omega
      · have he : worK V (k + 1) = worK V k := by simp only [worK]; rw [if_neg (by omega)]
        simp only [↓sx0, sxE, encs, sevalprocAttr]
        repeat ((with_reducible refine Vc.go ?_ fun _ => ?_); (focus (first | omega | (simp only [InK]; omega) | (simp [InK]; done) | (simp [InK]; omega))); simp only [↓sx0, sxE, encs, sevalprocAttr])
        refine ⟨k + 1, StLe.auto (by simp only [sx2, encs, sxR, sevalprocAttr] <;> (try simp [he, encs]) <;> (try omega)), ?_, ?_⟩
        · omega
        · omega
    · simp only [↓sx0, sxE, encs, sevalprocAttr]
      have hke : k = l.length := by omega
      subst hke
      have hw : worK V l.length < l.length := (worK_lt l.length).2 hn0
      have hEw : worK V l.length < E.length := by omega
      have bw := heb _ (List.getElem_mem hEw)
      have dw := h.due _ (List.getElem_mem hw)
      have v2 := hVk (worK V l.length) hEw hw
      refine DrawW.plan Tok mixed (.q 0 <| .q 1 <| .q 2 <| .q 3 <| .q 4 <| .q 5 <| .q 6 <| .q 7 <| .q 8 <| .q 9 <| .q 10 <| .q 11 <| .q 12 <| .done) (by kernel_rfl) (by kernel_rfl) ?_
      simp only [↓sx0, sxE, encs, sevalprocAttr]
      repeat ((with_reducible refine Vc.go ?_ fun _ => ?_); (focus (first | omega | (simp only [InK]; omega) | (simp [InK]; done) | (simp [InK]; omega))); simp only [↓sx0, sxE, encs, sevalprocAttr])
      refine IxW.nat hEw ?_
      simp only [↓sx0, sxE, encs, sevalprocAttr]
      refine IxW.nat hw ?_
      simp only [↓sx0, sxE, encs, sevalprocAttr]
      repeat ((with_reducible refine Vc.go ?_ fun _ => ?_); (focus (first | omega | (simp only [InK]; omega) | (simp [InK]; done) | (simp [InK]; omega))); simp only [↓sx0, sxE, encs, sevalprocAttr])
      rw [v2]
      refine EndW.fn ?_ ?_ <;> simp only [sx4, encs, kpLL_map, sxR, sevalprocAttr] <;> (try simp) <;> (try omega)
/-- the bound of a set: the first that is ready, the minutes, the last that is due. -/
def bndK (l : List Job) (s : List Int) (k : Nat) : Int × Int × Int := (s.take k).foldl (fun a i => (min a.1 (l.getD i.toNat ⟨⟨#[]⟩, 0, 0, 0⟩).ready, a.2.1 + (l.getD i.toNat ⟨⟨#[]⟩, 0, 0, 0⟩).minutes, max a.2.2 (l.getD i.toNat ⟨⟨#[]⟩, 0, 0, 0⟩).due)) ((l.getD (s.getD 0 0).toNat ⟨⟨#[]⟩, 0, 0, 0⟩).ready, 0, (l.getD (s.getD 0 0).toNat ⟨⟨#[]⟩, 0, 0, 0⟩).due)
def bndE (l : List Job) (s : List Int) : Int := (bndK l s s.length).1 + (bndK l s s.length).2.1 - (bndK l s s.length).2.2
theorem bndK_succ {l : List Job} {s : List Int} {k : Nat} (h : k < s.length) (hj : s[k].toNat < l.length) : bndK l s (k + 1) = (min (bndK l s k).1 l[s[k].toNat].ready, (bndK l s k).2.1 + l[s[k].toNat].minutes, max (bndK l s k).2.2 l[s[k].toNat].due) := by
  unfold bndK
  rw [List.take_succ_eq_append_getElem h, List.foldl_append]
  simp only [List.foldl_cons, List.foldl_nil]
  rw [List.getD_eq_getElem?_getD (i := s[k].toNat), List.getElem?_eq_getElem hj]
  rfl
theorem bndK_b {l : List Job} {s : List Int} (h : JobsOk l) (hs0 : 0 < s.length) (hs : ∀ i ∈ s, 0 ≤ i ∧ i < (l.length : Int)) : ∀ k, k ≤ s.length → (0 ≤ (bndK l s k).1 ∧ (bndK l s k).1 ≤ 10000000) ∧ (0 ≤ (bndK l s k).2.1 ∧ (bndK l s k).2.1 ≤ 10000 * (k : Int)) ∧ (0 ≤ (bndK l s k).2.2 ∧ (bndK l s k).2.2 ≤ 10000000)
  | 0, _ => by
    have h0 := hs _ (List.getElem_mem hs0)
    have hj : s[0].toNat < l.length := by omega
    have e : s.getD 0 0 = s[0] := by simp [List.getD_eq_getElem?_getD, List.getElem?_eq_getElem hs0]
    have hz : bndK l s 0 = (l[s[0].toNat].ready, (0 : Int), l[s[0].toNat].due) := by
      simp only [bndK, List.take_zero, List.foldl_nil, e]
      rw [List.getD_eq_getElem?_getD, List.getElem?_eq_getElem hj]; rfl
    rw [hz]
    have a := h.ready _ (List.getElem_mem hj)
    have b := h.due _ (List.getElem_mem hj)
    exact ⟨a, ⟨Int.le_refl _, by simp⟩, b⟩
  | k + 1, hk => by
    have hj := hs _ (List.getElem_mem (show k < s.length by omega))
    have hj : s[k].toNat < l.length := by omega
    have ih := bndK_b h hs0 hs k (by omega)
    rw [bndK_succ (by omega) hj]
    have a := h.ready _ (List.getElem_mem hj)
    have b := h.due _ (List.getElem_mem hj)
    have d := h.minutes _ (List.getElem_mem hj)
    simp only
    omega
theorem bound_s (b1 b2 : Bool) (l : List Job) (s : List Int) (h : JobsOk l) (hs0 : 0 < s.length) (hsl : s.length ≤ 1000000) (hs : ∀ i ∈ s, 0 ≤ i ∧ i < (l.length : Int)) : Ctr Tryz.prog 51 [.sl b1 4 (l.map eJ), .sl b2 1 (s.map eI)] (fun rr => rr = ⟨(.v (.int .i64 (bndE l s))), []⟩) := by
  have hb := bndK_b h hs0 hs
  have h0 := hs _ (List.getElem_mem hs0)
  have hj : s[0].toNat < l.length := by omega
  have e : s.getD 0 0 = s[0] := by simp [List.getD_eq_getElem?_getD, List.getElem?_eq_getElem hs0]
  have hz : bndK l s 0 = (l[s[0].toNat].ready, (0 : Int), l[s[0].toNat].due) := by
    simp only [bndK, List.take_zero, List.foldl_nil, e]
    rw [List.getD_eq_getElem?_getD, List.getElem?_eq_getElem hj]; rfl
  refine Ctr.of (rs := [.tmp 4]) Tok true Tryz.func51 rfl rfl rfl rfl (by simp [ofDL]) (fun w0 kp => ?_)
  simp only [↓sx0, sxE, encs, sevalprocAttr]
  refine DrawW.plan Tok mixed (.q 0 <| .q 1 <| .q 2 <| .q 3 <| .q 4 <| .q 5 <| .q 6 <| .q 7 <| .q 8 <| .q 9 <| .q 10 <| .q 11 <| .q 12 <| .q 13 <| .q 14 <| .q 15 <| .q 16 <| .done) (by kernel_rfl) (by kernel_rfl) ?_
  simp only [↓sx0, sxE, encs, sevalprocAttr]
  refine IxW.map (s[0]) (by omega) (List.getElem?_eq_getElem hs0) ?_
  simp only [↓sx0, sxE, encs, sevalprocAttr]
  refine IxW.map (l[s[0].toNat]) (by omega) (List.getElem?_eq_getElem hj) ?_
  simp only [↓sx0, sxE, encs, sevalprocAttr]
  refine IxW.map (s[0]) (by omega) (List.getElem?_eq_getElem hs0) ?_
  simp only [↓sx0, sxE, encs, sevalprocAttr]
  refine IxW.map (l[s[0].toNat]) (by omega) (List.getElem?_eq_getElem hj) ?_
  simp only [↓sx0, sxE, encs, sevalprocAttr]
  refine LoopW.comp [0, 5, 6, 7, 24, 25, 26] (by simp only [sx2, encs, sxR, sevalprocAttr] <;> (try simp) <;> (try omega)) ?_
  simp only [sx2, sxR, sevalprocAttr]
  refine LoopW.up Tok (fun k : Nat => [(5, (.v (.int .i64 ((bndK l s k).1)))), (6, (.v (.int .i64 ((bndK l s k).2.1)))), (7, (.v (.int .i64 ((bndK l s k).2.2)))), (26, (.v (.int .i64 k)))]) (fun k => []) (fun k => []) (fun k => []) (fun k => k ≤ s.length) (fun k => s.length - k) (0) (by simp only [sx2, encs, sxR, sevalprocAttr] <;> (try simp [hz, encs]) <;> (try omega)) ?_ ?_
  · omega
  rintro k hk
  simp only [↓sx0, sxE, encs, sevalprocAttr]
  refine BrW.dec (fun hlt => ?_) (fun hlt => ?_)
  · simp only [↓sx0, sxE, encs, sevalprocAttr]
    have hlt : k < s.length := by omega
    have hbk := hb k hk
    have hik := hs _ (List.getElem_mem hlt)
    have hjk : s[k].toNat < l.length := by omega
    have hmk := h.minutes _ (List.getElem_mem hjk)
    refine IxW.nat hlt ?_
    simp only [↓sx0, sxE, encs, sevalprocAttr]
    refine DrawW.plan Tok mixed (.q 0 <| .q 1 <| .q 2 <| .q 3 <| .q 4 <| .q 5 <| .q 6 <| .q 7 <| .q 8 <| .q 9 <| .q 10 <| .q 11 <| .q 12 <| .q 13 <| .q 14 <| .q 15 <| .q 16 <| .q 17 <| .q 18 <| .q 19 <| .q 20 <| .q 21 <| .q 22 <| .q 23 <| .done) (by kernel_rfl) (by kernel_rfl) ?_
    simp only [↓sx0, sxE, encs, sevalprocAttr]
    refine IxW.map (l[s[k].toNat]) (by omega) (List.getElem?_eq_getElem hjk) ?_
    simp only [↓sx0, sxE, encs, sevalprocAttr]
    refine IxW.map (l[s[k].toNat]) (by omega) (List.getElem?_eq_getElem hjk) ?_
    simp only [↓sx0, sxE, encs, sevalprocAttr]
    repeat ((with_reducible refine Vc.go ?_ fun _ => ?_); (focus (first | omega | (simp only [InK]; omega) | (simp [InK]; done) | (simp [InK]; omega))); simp only [↓sx0, sxE, encs, sevalprocAttr])
    refine IxW.map (l[s[k].toNat]) (by omega) (List.getElem?_eq_getElem hjk) ?_
    simp only [↓sx0, sxE, encs, sevalprocAttr]
    repeat ((with_reducible refine Vc.go ?_ fun _ => ?_); (focus (first | omega | (simp only [InK]; omega) | (simp [InK]; done) | (simp [InK]; omega))); simp only [↓sx0, sxE, encs, sevalprocAttr])
    refine ⟨k + 1, StLe.auto (by simp only [sx2, encs, sxR, sevalprocAttr] <;> (try simp [bndK_succ hlt hjk, encs]) <;> (try omega)), ?_, ?_⟩
    · omega
    · omega
  · simp only [↓sx0, sxE, encs, sevalprocAttr]
    have hke : k = s.length := by omega
    subst hke
    have hbk := hb s.length (Nat.le_refl _)
    repeat ((with_reducible refine Vc.go ?_ fun _ => ?_); (focus (first | omega | (simp only [InK]; omega) | (simp [InK]; done) | (simp [InK]; omega))); simp only [↓sx0, sxE, encs, sevalprocAttr])
    refine EndW.fn ?_ ?_ <;> simp only [sx4, encs, kpLL_map, sxR, sevalprocAttr] <;> (try simp [bndE]) <;> (try omega)
end Go.Proofs.YtfojggadhhaleaaGreatDoor
/-
  Chapter 9, walks: the sets of jobs (iterator).
-/
namespace Go.Proofs.YtfojggadhhaleaaGreatDoor
open Go Go.Vx
set_option linter.unusedSimpArgs false
set_option linter.unusedVariables false
set_option maxRecDepth 20000
def setC (l : List Job) : List SV := [.pt true [.sl true 4 (l.map eJ)]]
theorem setC_eq : ∀ l, setC l = [.pt true [.sl true 4 (l.map eJ)]] := fun _ => rfl
theorem sets_s (l : List Job) : Ctr Tryz.prog 50 [.sl true 4 (l.map eJ)] (fun rr => rr = ⟨.clo 73 (setC l), []⟩) := by
  have encs := And.intro encs setC_eq
  refine Ctr.ofB (rs := [.tmp 2]) Tok Tryz.func50 rfl rfl rfl rfl (by simp [ofDL]) (fun w0 kp => ?_)
  simp only [↓sx0, sxE, encs, sevalprocAttr]
  simp only [endY, boxV, boxL, bxPs, bxPs.bx1, bxD, assB, ptB, bxV, bxL, toDL, toD, consO, vD, oneV, dedN, addN, memN, sxL, sx2, encs, sxR, sevalprocAttr]
  exact EndW.fn (by simp only [sx4, encs, kpLL_map, sxR, sevalprocAttr] <;> (try simp) <;> (try omega)) (by simp only [sx4, encs, kpLL_map, sxR, sevalprocAttr] <;> (try simp) <;> (try omega))
def inSet (a b j : Job) : Bool := decide (a.ready ≤ j.ready) && decide (j.due ≤ b.due)
def setK (l : List Job) (a b : Job) (k : Nat) : List Int := ((List.range k).filter fun i => inSet a b (l.getD i ⟨⟨#[]⟩, 0, 0, 0⟩)).map fun i : Nat => (i : Int)
def setP (l : List Job) (a b : Job) : List (List Int) := if setK l a b l.length = [] then [] else [setK l a b l.length]
/-- what has been found ahead of job 'i', and with it ahead of job 'j'. -/
def setsI (l : List Job) (a : Job) (j : Nat) : List (List Int) := (l.take j).flatMap fun b => setP l a b
def setsO (l : List Job) (i : Nat) : List (List Int) := (l.take i).flatMap fun a => setsI l a l.length
def setsL (l : List Job) : List (List Int) := setsO l l.length
theorem setK_succ {l : List Job} {a b : Job} {k : Nat} (h : k < l.length) : setK l a b (k + 1) = if inSet a b l[k] = true then setK l a b k ++ [(k : Int)] else setK l a b k := by
  unfold setK
  rw [List.range_succ, List.filter_append, List.map_append]
  by_cases h2 : inSet a b l[k] = true
  · simp [List.getElem?_eq_getElem h, h2, List.filter_cons]
  · simp [List.getElem?_eq_getElem h, h2, List.filter_cons]
theorem setK_mem {l : List Job} {a b : Job} {k : Nat} {i : Int} (hk : k ≤ l.length) (h : i ∈ setK l a b k) : 0 ≤ i ∧ i < (l.length : Int) := by
  simp only [setK, List.mem_map, List.mem_filter, List.mem_range] at h
  obtain ⟨n, ⟨h1, _⟩, rfl⟩ := h
  omega
theorem setK_len {l : List Job} {a b : Job} (k : Nat) : (setK l a b k).length ≤ k := by
  simp only [setK, List.length_map]
  exact Nat.le_trans (List.length_filter_le _ _) (by simp)
theorem setsI_succ {l : List Job} {a : Job} {j : Nat} (h : j < l.length) : setsI l a (j + 1) = setsI l a j ++ setP l a l[j] := by
  unfold setsI
  rw [List.take_succ_eq_append_getElem h, List.flatMap_append]; simp
theorem setsO_succ {l : List Job} {i : Nat} (h : i < l.length) : setsO l (i + 1) = setsO l i ++ setsI l l[i] l.length := by
  unfold setsO
  rw [List.take_succ_eq_append_getElem h, List.flatMap_append]; simp
theorem setsI_le {l : List Job} {a : Job} {j k : Nat} (h : j ≤ k) : setsI l a j <+: setsI l a k := by
  unfold setsI
  obtain ⟨t, ht⟩ : l.take j <+: l.take k := List.take_prefix_take_left h
  rw [← ht, List.flatMap_append]
  exact List.prefix_append _ _
theorem setsO_le {l : List Job} {j k : Nat} (h : j ≤ k) : setsO l j <+: setsO l k := by
  unfold setsO
  obtain ⟨t, ht⟩ : l.take j <+: l.take k := List.take_prefix_take_left h
  rw [← ht, List.flatMap_append]
  exact List.prefix_append _ _
theorem setsIt_s (l : List Job) (h : JobsOk l) : ItCtr Tryz.prog 73 (setC l) ((setsL l).map eO) := by
  have encs := And.intro encs setC_eq
  have hn := h.n
  refine ItCtr.of Tok Tryz.func73 rfl rfl rfl rfl (by simp [ofDL, encs]) (fun w0 kp yd hok => ?_)
  simp only [↓sx0, sxE, encs, sevalprocAttr]
  refine LoopW.comp [0, 1, 10, 11, 12] (by simp only [sx2, encs, sxR, sevalprocAttr] <;> (try simp) <;> (try omega)) ?_
  simp only [sx2, sxR, sevalprocAttr]
  refine LoopW.upG Tok (fun i : Nat => [(12, (.v (.int .i64 i)))]) (fun i => []) (fun i => []) (fun i => []) (fun i => (setsO l i).map eO) (fun i => i ≤ l.length) (fun i => l.length - i) (0) (by simp only [sx2, encs, sxR, sevalprocAttr] <;> (try simp [setsO, encs]) <;> (try omega)) ?_ ?_
  · omega
  rintro i hi
  simp only [↓sx0, sxE, encs, sevalprocAttr]
  refine BrW.dec (fun hlt => ?_) (fun hlt => ?_)
  · simp only [↓sx0, sxE, encs, sevalprocAttr]
    have hilt : i < l.length := by omega
    refine IxW.nat hilt ?_
    simp only [↓sx0, sxE, encs, sevalprocAttr]
    refine LoopW.comp [0, 1, 4, 10, 11, 12, 16, 17, 18] (by simp only [sx2, encs, sxR, sevalprocAttr] <;> (try simp) <;> (try omega)) ?_
    simp only [sx2, sxR, sevalprocAttr]
    refine LoopW.upG Tok (fun j : Nat => [(18, (.v (.int .i64 j)))]) (fun j => []) (fun j => []) (fun j => []) (fun j => (setsO l i ++ setsI l l[i] j).map eO) (fun j => j ≤ l.length) (fun j => l.length - j) (0) (by simp only [sx2, encs, sxR, sevalprocAttr] <;> (try simp [setsI, encs]) <;> (try omega)) ?_ ?_
    · omega
    rintro j hj
    simp only [↓sx0, sxE, encs, sevalprocAttr]
    refine BrW.dec (fun hlt2 => ?_) (fun hlt2 => ?_)
    · simp only [↓sx0, sxE, encs, sevalprocAttr]
      have hjlt : j < l.length := by omega
      refine IxW.nat hjlt ?_
      simp only [↓sx0, sxE, encs, sevalprocAttr]
      refine LoopW.comp [0, 1, 4, 6, 7, 10, 11, 12, 16, 17, 18, 22, 23, 24] (by simp only [sx2, encs, sxR, sevalprocAttr] <;> (try simp) <;> (try omega)) ?_
      simp only [sx2, sxR, sevalprocAttr]
      refine LoopW.upG Tok (fun k : Nat => [(7, .row 1), (24, (.v (.int .i64 k)))]) (fun k => []) (fun k => []) (fun k => [.own 3 1 ((setK l l[i] l[j] k).map eI)]) (fun k => (setsO l i ++ setsI l l[i] j).map eO) (fun k => k ≤ l.length) (fun k => l.length - k) (0) (by simp only [sx2, encs, sxR, sevalprocAttr] <;> (try simp [setK, encs]) <;> (try omega)) ?_ ?_
      · omega
      rintro k hk
      simp only [↓sx0, sxE, encs, sevalprocAttr]
      refine BrW.dec (fun hlt3 => ?_) (fun hlt3 => ?_)
      · simp only [↓sx0, sxE, encs, sevalprocAttr]
        have hklt : k < l.length := by omega
        refine IxW.nat hklt ?_
        simp only [↓sx0, sxE, encs, sevalprocAttr]
        have hsl := setK_len (l := l) (a := l[i]) (b := l[j]) k
        refine BrW.dec (fun t1 => ?_) (fun t1 => ?_)
        · simp only [↓sx0, sxE, encs, sevalprocAttr]
          refine BrW.dec (fun t2 => ?_) (fun t2 => ?_)
          · have he : setK l l[i] l[j] (k + 1) = setK l l[i] l[j] k ++ [(k : Int)] := by rw [setK_succ hklt, if_pos (by simp [inSet]; omega)]
            simp only [↓sx0, sxE, encs, sevalprocAttr]
            repeat ((with_reducible refine Vc.go ?_ fun _ => ?_); (focus (first | omega | (simp only [InK]; omega) | (simp [InK]; done) | (simp [InK]; omega))); simp only [↓sx0, sxE, encs, sevalprocAttr])
            refine ⟨k + 1, StLe.auto (by simp only [sx2, encs, sxR, sevalprocAttr] <;> (try simp [he, encs]) <;> (try omega)), ?_, ?_⟩
            · omega
            · omega
          · have he : setK l l[i] l[j] (k + 1) = setK l l[i] l[j] k := by rw [setK_succ hklt, if_neg (by simp [inSet]; omega)]
            simp only [↓sx0, sxE, encs, sevalprocAttr]
            repeat ((with_reducible refine Vc.go ?_ fun _ => ?_); (focus (first | omega | (simp only [InK]; omega) | (simp [InK]; done) | (simp [InK]; omega))); simp only [↓sx0, sxE, encs, sevalprocAttr])
            refine ⟨k + 1, StLe.auto (by simp only [sx2, encs, sxR, sevalprocAttr] <;> (try simp [he, encs]) <;> (try omega)), ?_, ?_⟩
            · omega
            · omega
        · have he : setK l l[i] l[j] (k + 1) = setK l l[i] l[j] k := by rw [setK_succ hklt, if_neg (by simp [inSet]; omega)]
          simp only [↓sx0, sxE, encs, sevalprocAttr]
          repeat ((with_reducible refine Vc.go ?_ fun _ => ?_); (focus (first | omega | (simp only [InK]; omega) | (simp [InK]; done) | (simp [InK]; omega))); simp only [↓sx0, sxE, encs, sevalprocAttr])
          refine ⟨k + 1, StLe.auto (by simp only [sx2, encs, sxR, sevalprocAttr] <;> (try simp [he, encs]) <;> (try omega)), ?_, ?_⟩
          · omega
          · omega
      · simp only [↓sx0, sxE, encs, sevalprocAttr]
        have hke : k = l.length := by omega
        subst hke
        have hse := setsI_succ (a := l[i]) hjlt
        have hle2 : setsO l i ++ setsI l l[i] (j + 1) <+: setsL l := by
          have h1 := setsI_le (l := l) (a := l[i]) (show j + 1 ≤ l.length by omega)
          have h2 := setsO_le (l := l) (show i + 1 ≤ l.length by omega)
          rw [setsO_succ hilt] at h2
          exact ((List.prefix_append_right_inj _).2 h1).trans h2
        refine BrW.dec (fun hpos => ?_) (fun hpos => ?_)
        · have hne : ¬ setK l l[i] l[j] l.length = [] := fun e => by rw [e] at hpos; simp at hpos
          have hP : setP l l[i] l[j] = [setK l l[i] l[j] l.length] := by rw [setP, if_neg hne]
          rw [hse, hP] at hle2
          rw [hP] at hse
          have hm : ((setsO l i ++ setsI l l[i] j).map eO ++ [eO (setK l l[i] l[j] l.length)]) <+: (setsL l).map eO := by
            have := hle2.map eO
            simpa [List.append_assoc] using this
          have encs := And.intro encs (show ∀ o, eO o = [.sl true 1 (o.map eI)] from fun _ => rfl)
          simp only [↓sx0, sxE, encs, sevalprocAttr]
          refine YldI.of (ys := (setsO l i ++ setsI l l[i] j).map eO) hok rfl rfl (by simp only [sx2, sxA, encs, sxR, sevalprocAttr] <;> rfl) (by simp only [sx2, sxA, encs, sxR, sevalprocAttr] <;> rfl) rfl rfl rfl (hm) ?_ ?_
          · simp only [↓sx0, sxE, encs, sevalprocAttr]
            repeat ((with_reducible refine Vc.go ?_ fun _ => ?_); (focus (first | omega | (simp only [InK]; omega) | (simp [InK]; done) | (simp [InK]; omega))); simp only [↓sx0, sxE, encs, sevalprocAttr])
            refine ⟨j + 1, StLe.auto (by simp only [sx2, encs, sxR, sevalprocAttr] <;> (try simp [hse, encs]) <;> (try omega)), ?_, ?_⟩
            · omega
            · omega
          · simp only [↓sx0, sxE, encs, sevalprocAttr]
            intro h
            cases h
        · have he : setK l l[i] l[j] l.length = [] := List.eq_nil_of_length_eq_zero (by omega)
          have hP : setP l l[i] l[j] = [] := by rw [setP, if_pos he]
          rw [hP, List.append_nil] at hse
          simp only [↓sx0, sxE, encs, sevalprocAttr]
          repeat ((with_reducible refine Vc.go ?_ fun _ => ?_); (focus (first | omega | (simp only [InK]; omega) | (simp [InK]; done) | (simp [InK]; omega))); simp only [↓sx0, sxE, encs, sevalprocAttr])
          refine ⟨j + 1, StLe.auto (by simp only [sx2, encs, sxR, sevalprocAttr] <;> (try simp [hse, encs]) <;> (try omega)), ?_, ?_⟩
          · omega
          · omega
    · simp only [↓sx0, sxE, encs, sevalprocAttr]
      have hke : j = l.length := by omega
      subst hke
      have hse := setsO_succ hilt
      rw [← hse]
      repeat ((with_reducible refine Vc.go ?_ fun _ => ?_); (focus (first | omega | (simp only [InK]; omega) | (simp [InK]; done) | (simp [InK]; omega))); simp only [↓sx0, sxE, encs, sevalprocAttr])
      refine ⟨i + 1, StLe.auto (by simp only [sx2, encs, sxR, sevalprocAttr] <;> (try simp) <;> (try omega)), ?_, ?_⟩
      · omega
      · omega
  · simp only [↓sx0, sxE, encs, sevalprocAttr]
    have hke : i = l.length := by omega
    subst hke
    intro _
    rfl
end Go.Proofs.YtfojggadhhaleaaGreatDoor
