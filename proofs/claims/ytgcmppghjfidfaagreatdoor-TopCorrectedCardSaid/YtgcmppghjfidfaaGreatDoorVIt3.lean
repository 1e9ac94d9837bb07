/-
 What goes into results and calls: own rows and own boxes that become immutable; equations for loops over iterators.
-/
import Derived.Test.YtgcmppghjfidfaaGreatDoorVIt2
namespace Go.Vx
open Go Go.RowKit
set_option linter.unusedSimpArgs false

section
variable {C : Cx} {st : St} {K : SV → St → Prop}
theorem htC_norm (rw : List Rw) (args : List SV) : htC args = .all ∨ htC (normDL rw args) = htC args := by
 cases args with
 | nil => exact .inr rfl
 | cons x l =>
  cases x with
  | sl b s e =>
   cases l with
   | nil => exact .inr rfl
   | cons y l => cases y <;> first | exact .inl rfl | exact .inr rfl
  | _ => first | exact .inr rfl | exact .inl rfl
theorem Fr.cut {g g1 : Gh} {w w' : World} {d args : List SV} (h : Fr g1 (htC d) w w') (e : htC args = .all ∨ htC d = htC args) : Fr g (htC args) w w' := by
 rcases e with e | e
 ·rw [e]; exact Fr.all
 ·rw [e] at h
  cases args with
  | nil => exact h
  | cons x l =>
   cases x with
   | sl b s e =>
    cases l with
    | nil => exact h
    | cons y l => cases y <;> first | exact Fr.all | exact h
   | _ => first | exact Fr.all | exact h
/-- a call to which own rows go for good. -/
theorem CallI.frz {f : Nat} {args : List SV} (rs : List Nat) {st1 : St} {d : List SV} (hst : frzX rs st = st1) (hd : normDL st1.rw args = d) (h : CallI C f d st1 K ⟨⟩) : CallI C f args st K ⟨⟩ := fun g a w ht hm vs hr => by
 obtain ⟨g1, hle, ht1, hm1, _, _⟩ := frz_sound rs ht hm
 rw [hst] at ht1 hm1
 have := h g1 a w ht1 hm1 vs (by rw [← hd]; exact rels_normD ht1 _ _ (rels_mono hle _ _ hr))
 exact ⟨this.1, this.2.mono fun e w' ⟨v, he, g', st', sv, k1, k2, k3, k4, k5⟩ => ⟨v, he, g', st', sv, k1, k2, k3, k4, fun hdr => ⟨hle.trans (k5 hdr).1, (k5 hdr).2.cut (by rw [← hd]; exact htC_norm _ _)⟩⟩⟩
end

/-! ### own boxes in a result -/
/-! boxes in a list of values; their cells as data -/
mutual
def boxV : SV → List Nat
 | .box k _ => [k]
 | .agg l => boxL l
 | .tup l => boxL l
 | .clo _ l => boxL l
 | _ => []
def boxL : List SV → List Nat
 | [] => []
 | x :: l => boxV x ++ boxL l
end
def bxD (rw : List Rw) : Option (Option Bx) → Option (List D)
 | some (some b) => toDL rw b.cells
 | _ => none
def assB : List (Nat × List D) → Nat → Option (List D)
 | [], _ => none
 | (k, ds) :: l, j => if k = j then some ds else assB l j
def bxPs (rw : List Rw) (bx : List (Option Bx)) : List Nat → Option (List (Nat × List D))
 | [] => some []
 | k :: l => bx1 (bxD rw (nth bx k)) k (bxPs rw bx l)
 where bx1 (x : Option (List D)) (k : Nat) (r : Option (List (Nat × List D))) : Option (List (Nat × List D)) :=
 match x, r with
 | some ds, some r => some ((k, ds) :: r)
 | _, _ => none
def ptB (k o : Nat) : Option (List D) → SV
 | some ds => .pt true (dropN o ds)
 | none => .box k o
mutual
def bxV (ps : List (Nat × List D)) : SV → SV
 | .box k o => ptB k o (assB ps k)
 | .agg l => .agg (bxL ps l)
 | .tup l => .tup (bxL ps l)
 | .clo f l => .clo f (bxL ps l)
 | x => x
def bxL (ps : List (Nat × List D)) : List SV → List SV
 | [] => []
 | x :: l => bxV ps x :: bxL ps l
end
mutual
theorem rel_bxV {g g' : Gh} (hle : g.Le g') {ps : List (Nat × List D)} (hp : ∀ k ds, assB ps k = some ds → ∀ o u, rel g (.box k o) u → rel g' (.pt true (dropN o ds)) u) : ∀ (v : SV) (u : Value), rel g v u → rel g' (bxV ps v) u
 | .box k o, u, h => by
  simp only [bxV]
  cases hx : assB ps k with
  | none => exact rel_mono hle _ _ h
  | some ds => exact hp k ds hx o u h
 | .agg l, u, ⟨cs, h1, h2⟩ => by simp only [bxV]; exact ⟨cs, h1, rels_bxV hle hp l _ h2⟩
 | .tup l, u, ⟨cs, h1, h2⟩ => by simp only [bxV]; exact ⟨cs, h1, rels_bxV hle hp l _ h2⟩
 | .clo f l, u, ⟨cs, h1, h2⟩ => by simp only [bxV]; exact ⟨cs, h1, rels_bxV hle hp l _ h2⟩
 | .any, u, h => rel_mono hle _ _ h
 | .v _, u, h => rel_mono hle _ _ h
 | .sl .., u, h => rel_mono hle _ _ h
 | .pt .., u, h => rel_mono hle _ _ h
 | .row _, u, h => rel_mono hle _ _ h
 | .relt .., u, h => rel_mono hle _ _ h
 | .arm, u, h => rel_mono hle _ _ h
 | .ali .., u, h => rel_mono hle _ _ h
 | .bxa .., u, h => rel_mono hle _ _ h
 | .glo .., u, h => rel_mono hle _ _ h
 | .cap .., u, h => rel_mono hle _ _ h
theorem rels_bxV {g g' : Gh} (hle : g.Le g') {ps : List (Nat × List D)} (hp : ∀ k ds, assB ps k = some ds → ∀ o u, rel g (.box k o) u → rel g' (.pt true (dropN o ds)) u) : ∀ (l : List SV) (us : List Value), rels g l us → rels g' (bxL ps l) us
 | [], [], _ => trivial
 | x :: l, u :: us, h => ⟨rel_bxV hle hp x u h.1, rels_bxV hle hp l us h.2⟩
 | [], _ :: _, h => h.elim
 | _ :: _, [], h => h.elim
end
theorem frzB_sound {C : Cx} {a : Act} {w : World} (hbase : ∀ fo x, frS C fo true x = false → C.w0.heap.size ≤ x ∧ C.pin.np x = false) : ∀ (ks : List Nat) (ps : List (Nat × List D)) {g : Gh} {st : St}, Mod C g st a w → ks.Nodup → bxPs st.rw st.bx ks = some ps →
  ∃ g' bx', g.Le g' ∧ Mod C g' { st with bx := bx' } a w ∧ ∀ k ds, assB ps k = some ds → ∀ o u, rel g (.box k o) u → rel g' (.pt true (dropN o ds)) u
 | [], ps, g, st, hm, _, h => by
  simp only [bxPs] at h; cases h
  exact ⟨g, st.bx, .refl g, hm, fun k ds h => by simp [assB] at h⟩
 | k :: ks, ps, g, st, hm, hnd, h => by
  simp only [bxPs] at h
  unfold bxPs.bx1 at h
  split at h
  ·rename_i ds r hd hr
   cases h
   unfold bxD at hd
   split at hd
   ·rename_i b hk
    rw [nth_eq] at hk
    obtain ⟨h1, h2, h3⟩ := frzB_one hm hk hd (fun x hx => hbase _ x hx)
    have hnd' := List.nodup_cons.1 hnd
    have hr' : bxPs st.rw (setN st.bx k none) ks = some r := by
     rw [← hr]
     have : ∀ l : List Nat, k ∉ l → bxPs st.rw (setN st.bx k none) l = bxPs st.rw st.bx l := by
      intro l
      induction l with
      | nil => intro _; rfl
      | cons j l ih =>
       intro hj
       simp only [List.mem_cons, not_or] at hj
       simp only [bxPs]
       rw [ih hj.2]
       simp only [nth_eq, setN_eq, List.getElem?_set, if_neg hj.1]
     exact this ks hnd'.1
    obtain ⟨g', bx', k1, k2, k3⟩ := frzB_sound hbase ks r (st := { st with bx := setN st.bx k none }) h2 hnd'.2 hr'
    refine ⟨g', bx', h1.trans k1, k2, fun j dd hj o u hu => ?_⟩
    simp only [assB] at hj
    split at hj
    ·rename_i e; subst e; cases hj
     exact rel_mono k1 _ _ (h3 o u hu)
    ·exact k3 j dd hj o u (rel_mono h1 _ _ hu)
   ·cases hd
  ·cases h

def endY (l : List SV) (post : Ret → Prop) (st : St) (_ : Lk post) : Prop :=
 match bxPs st.rw st.bx (dedN (boxL l) []) with
 | some ps => EndW (normD st.rw (bxV ps (tupV l))) st.rw post ⟨⟩
 | none => False
def endX2 (l : Option (List SV)) (st : St) (post : Ret → Prop) (_ : Lk (st, post)) : Prop :=
 match l with
 | some l => endY l post (frzX (rowsIn st.rw (l ++ bxVals st.bx)) st) ⟨⟩
 | none => False
/-- own boxes in the result become immutable. -/
def finB (T : Tab) (rs : List ResultVar) (post : Ret → Prop) (e : Exit) (st : St) : Prop :=
 match e with
 | .ret => endX2 (ressS T st rs) st post ⟨⟩
 | .normal => endX2 (ressS T st rs) st post ⟨⟩
 | _ => False
theorem dedN_nodup : ∀ (l acc : List Nat), acc.Nodup → (dedN l acc).Nodup
 | [], acc, h => h
 | k :: l, acc, h => by
  simp only [dedN]
  refine dedN_nodup l _ ?_
  unfold addN
  split
  ·exact h
  ·rename_i hk
   have : k ∉ acc := by
    have memN_iff : ∀ l : List Nat, memN k l = true ↔ k ∈ l := by
     intro l
     induction l with
     | nil => simp [memN]
     | cons x l ih => simp only [memN]; split <;> simp_all; omega
    rw [memN_iff] at hk; exact hk
   rw [List.nodup_append]
   exact ⟨h, by simp, fun x hx y hy e => by simp at hy; subst hy; subst e; exact this hx⟩

theorem Ctr.ofB {P : Program} {T : Tab} (hT : TabOk P T) {f : FuncId} {fn : Func} {body : Code} {rs : List ResultVar} {args : List SV} {post : Ret → Prop} (hf : P.funcs[f]? = some fn) (hb : fn.body = some body) (hname : (fn.name == "runtime.NumGoroutine") = false) (hrs : fn.results.toList = rs)
  (hd : dstOk fn.ntmps body = true) (hargs : args.length ≤ fn.ntmps) (h : ∀ w0 kp, runC T ⟨P, w0, fn.ntmps, kp, pin0, false⟩ body (initSt args) (finB T rs post) ⟨⟩) : Ctr P f args post := by
 refine ⟨⟨fn, hf, hname, by simp [hb]⟩, fun w kp hkp vs hr => ?_⟩
 refine callsIn_wide.1 (callsIn_of_wp_marks (F := Fence.wide) (n := 0) hf hb trivial ?_ rfl)
 let C : Cx := ⟨P, w, fn.ntmps, kp, pin0, false⟩
 have hT' : TabOk C.P T := hT
 have hm := Ctr.start (P := P) (N := fn.ntmps) hargs hkp hr
 refine wpIn_mono (code_sound hT' body _ _ hd (h w kp) _ _ w hm) fun e a' w' ⟨g', st', h1, h2⟩ => ?_
 have key : ∀ {l}, endX2 (ressS T st' rs) st' post l → LeavesInM Fence.wide 0 P fn a'.tmps (fun e w' => ∃ v r, e = .returned v ∧ post r ∧ RetOk w w' kp r v) a'.defers .returning w' := by
  intro l he
  obtain ⟨ds, hds1, hds2, hds3, _⟩ := h2.tm.defers
  rw [hds1]
  have h3 : Mod C (g'.close ds) st' { a' with defers := [] } (closeW ds w') := h2.close hds2 (fun D hD => by simpa [frS, C, pin0, ho0] using hD) rfl
  refine leaves_marks ds w' (fun D hD => (h2.mem.imm false).1 D _ (hds2 D hD).1) hds3 ?_
  revert h3
  generalize closeW ds w' = w'
  generalize g'.close ds = g'
  intro h3
  clear h2
  have h2 := h3
  unfold endX2 at he
  split at he
  ·rename_i l hl
   obtain ⟨us, k1, k2⟩ := ressS_ok hT' h2.tm h2.mem rs l hl
   rw [← hrs] at k2
   have hres := results_run k2
   refine ⟨tupU us, hres, tupU us, ?_⟩
   have hrel : rel g' (tupV l) (tupU us) := by
    match l, us, k1 with
    | [], [], _ => exact ⟨_, rfl, trivial⟩
    | [x], [u], k => exact k.1
    | x :: y :: l, u :: v :: us, k => exact ⟨_, rfl, by simpa using k⟩
   obtain ⟨g2, k4, k5, k6, _, _⟩ := frz_sound (rowsIn st'.rw (l ++ bxVals st'.bx)) h2.tm h2.mem
   unfold endY at he
   split at he
   ·rename_i ps hps
    obtain ⟨g3, bx', q1, q2, q3⟩ := frzB_sound (C := C) (fun fo x hx => by simpa [frS, C, pin0, ho0] using hx) _ ps (st := frzX (rowsIn st'.rw (l ++ bxVals st'.bx)) st') ⟨k5, k6⟩ (dedN_nodup _ _ .nil) hps
    have hrel3 := rel_bxV q1 q3 _ _ (rel_mono k4 _ _ hrel)
    obtain ⟨r, hp, hok⟩ := retOk_of q2 (rel_normD q2.tm _ _ hrel3) he
    exact ⟨r, rfl, hp, hok⟩
   ·exact he.elim
  ·exact he.elim
 cases e with
 | normal => exact key (l := ⟨⟩) h1
 | ret => exact key (l := ⟨⟩) h1
 | exit _ => exact h1.elim
 | goto _ => exact h1.elim
 | panic _ => exact h1.elim
 | outgrown => exact h1.elim

/-! ### equations, for simp -/
theorem pinF0 : pinF pin0 := ⟨rfl, rfl⟩
theorem sxZ :
  (∀ p ti k x st K l, slcY p ti (.box k 0) x none none st K l = slB p ti k (nth st.bx k) st K ⟨⟩) ∧
  (∀ p ti b cs x st K l, slcY p ti (.pt b cs) x none none st K l = slP ti b cs (stK K st) ⟨⟩) ∧
  (∀ p ti r x lo hi st K l, slcY p ti (.row r) x lo hi st K l = slcX ti (.row r) x lo hi st K ⟨⟩) ∧
  (∀ p ti b s e x lo hi st K l, slcY p ti (.sl b s e) x lo hi st K l = slcX ti (.sl b s e) x lo hi st K ⟨⟩) ∧
  (∀ p ti y x lo hi st K l, slcY p ti (.v y) x lo hi st K l = slcX ti (.v y) x lo hi st K ⟨⟩) ∧
  (∀ a b n e es m k t cs st K l, slB pin0 (some ⟨a, b, .arr n e es, m⟩) k (some (some ⟨t, cs⟩)) st K l = slB2 n es k (toDL st.rw cs) st K ⟨⟩) ∧
  (∀ n es k ds st K l, slB2 n es k (some ds) st K l = slB3 k es ds (chuO es n ds) st K ⟨⟩) ∧
  (∀ k es ds els st K l, slB3 k es ds (some els) st K l = pass (.sl true es els) { st with bx := setN st.bx k none, tm := subT k ds st.tm } K ⟨⟩) ∧
  (∀ a c n e es m b cs k l, slP (some ⟨a, c, .arr n e es, m⟩) b cs k l = slP2 b es (chuO es n cs) k ⟨⟩) ∧
  (∀ b es els k l, slP2 b es (some els) k l = k (.sl b es els)) ∧
  (∀ es ds, chuO es 0 ds = some []) ∧ (∀ es n ds, chuO es (n + 1) ds = chu2 (takeN es ds) (chuO es n (dropN es ds))) ∧ (∀ e l, chu2 (some e) (some l) = some (e :: l)) ∧
  (∀ k ds, subT k ds [] = []) ∧ (∀ k ds t x l, subT k ds ((t, x) :: l) = (t, subV k ds x) :: subT k ds l) ∧
  (∀ k ds j o, subV k ds (.box j o) = if j = k then .pt true (dropN o ds) else .box j o) ∧ (∀ k ds x, subV k ds (.v x) = .v x) ∧ (∀ k ds b s e, subV k ds (.sl b s e) = .sl b s e) ∧ (∀ k ds b e, subV k ds (.pt b e) = .pt b e) ∧ (∀ k ds r, subV k ds (.row r) = .row r) ∧
  (∀ k ds a b c d, subV k ds (.relt a b c d) = .relt a b c d) ∧ (∀ k ds l, subV k ds (.agg l) = .agg l) ∧ (∀ k ds l, subV k ds (.tup l) = .tup l) ∧ (∀ k ds f l, subV k ds (.clo f l) = .clo f l) ∧ (∀ k ds, subV k ds .any = .any) := by
 refine ⟨fun _ _ _ _ _ _ _ => rfl, fun _ _ _ _ _ _ _ _ => rfl, fun _ _ _ _ _ _ _ _ _ => ?_, fun _ _ _ _ _ _ _ _ _ _ _ => ?_, fun _ _ _ _ _ _ _ _ _ => ?_, fun _ _ _ _ _ _ _ _ _ _ _ _ => ?_, fun _ _ _ _ _ _ _ => rfl, fun _ _ _ _ _ _ _ => rfl, fun _ _ _ _ _ _ _ _ _ _ => rfl, fun _ _ _ _ _ => rfl, fun _ _ => rfl, fun _ _ _ => rfl, fun _ _ => rfl, fun _ _ => rfl, fun _ _ _ _ _ => rfl, fun _ _ _ _ => rfl, fun _ _ _ => rfl, fun _ _ _ _ _ => rfl, fun _ _ _ _ => rfl, fun _ _ _ => rfl, fun _ _ _ _ _ _ => rfl, fun _ _ _ => rfl, fun _ _ _ => rfl, fun _ _ _ _ => rfl, fun _ _ => rfl⟩
 ·simp [slcY]
 ·simp [slcY]
 ·simp [slcY]
 ·simp [slB, pinF0]
theorem sxG :
  (ghI [] = []) ∧ (∀ e s els l, ghI (.own e s els :: l) = []) ∧ (∀ s els l, ghI (.frz s els :: l) = []) ∧ (∀ l, ghI (.gone :: l) = []) ∧ (∀ s ys l, ghI (.gh s ys :: l) = [0]) ∧
  (∀ m, gamG [] m = m) ∧ (∀ e s els l m, gamG (.own e s els :: l) m = m) ∧ (∀ s ys l x m, gamG (.gh s ys :: l) (x :: m) = some 0 :: m) ∧
  (∀ rw s ys l r ks, leR rw (.gh s ys :: l) (some r :: ks) = (leG (nth rw r) s ys ∧ leR rw l ks)) ∧
  (∀ s' ys' s ys, leG (some (.gh s' ys')) s ys = (s = s' ∧ ys = ys')) ∧
  (∀ C l args st K k, callX C (.v (.func (.yield l) ⟨[]⟩ ⟨[]⟩)) args st K k = YldI C l args st K ⟨⟩) ∧
  (∀ T P w0 N kp pin c K st, asK T P w0 N kp pin c K .normal st = ∀ fr, runC T ⟨P, w0, N, kp, ⟨pin.nb, pin.nr, pin.ρ, pin.σ, pin.μ, pin.np, ⟨pin.ho.yd, pin.ho.ro, false, some fr, pin.ho.lp, pin.ho.sz⟩⟩, false⟩ c st K ⟨⟩) ∧
  (∀ C J tm0 bx rw K st, rdK C J tm0 bx rw K .normal st = (J ∧ leA C ⟨tm0, st.bx, st.rw⟩ ⟨tm0, bx, rw⟩)) ∧
  (∀ C J tm0 bx rw K st, rdK C J tm0 bx rw K .ret st = K .ret ⟨tm0, st.bx, st.rw⟩) ∧
  (∀ C J tm0 bx rw K i st, rdK C J tm0 bx rw K (.exit i) st = K (.exit i) ⟨tm0, st.bx, st.rw⟩) ∧
  (∀ p ps x xs tm, setPs (p :: ps) (x :: xs) tm = setPs ps xs ((p, x) :: tm)) ∧ (∀ tm, setPs [] [] tm = tm) ∧
  (∀ xs st, finI xs .normal st = endG xs (nth st.rw 0)) ∧ (∀ xs st, finI xs .ret st = endG xs (nth st.rw 0)) ∧
  (∀ xs s ys, endG xs (some (.gh s ys)) = (s = false → ys = xs)) ∧
  (∀ T rs post st, finB T rs post .ret st = endX2 (ressS T st rs) st post ⟨⟩) ∧ (∀ T rs post st, finB T rs post .normal st = endX2 (ressS T st rs) st post ⟨⟩) ∧
  (∀ l st post k, endX2 (some l) st post k = endY l post (frzX (rowsIn st.rw (l ++ bxVals st.bx)) st) ⟨⟩) ∧
  (∀ l st, nth (Rw.gh l st :: ([] : List Rw)) 0 = some (.gh l st)) := by
 refine ⟨rfl, (by intros; rfl), (by intros; rfl), (by intros; rfl), (by intros; rfl), (by intros; rfl), (by intros; rfl), (by intros; rfl), (by intros; rfl), (by intros; rfl), fun _ _ _ _ _ _ => ?_, (by intros; rfl), (by intros; rfl), (by intros; rfl), (by intros; rfl), (by intros; rfl), (by intros; rfl), (by intros; rfl), (by intros; rfl), (by intros; rfl), (by intros; rfl), (by intros; rfl), (by intros; rfl), (by intros; rfl)⟩
 simp [callX]
def zK (T : Tab) (C : Cx) (ops : List Oper) (p : Plan) (fps : List (Nat × Fp)) (K : St → Prop) (st : St) : Prop := runP T C ops p fps st K ⟨⟩
theorem sxCv : (∀ T a b e es eb ez c a' b' c' r tm bx rw K l, cvX T (some ⟨a, b, .sl e es eb ez, c⟩) (some ⟨a', b', .str, c'⟩) (.row r) ⟨tm, bx, rw⟩ K l = (byteT (tlook T e) = true ∧ CvR (nth rw r) K ⟨tm, bx, rw⟩ ⟨⟩)) := fun _ _ _ _ _ _ _ _ _ _ _ _ _ _ _ _ _ => rfl
theorem sxCp :
  (∀ T C t x h m st K l, opX T C (.slice t x none (some h) (some m)) st K l = tcC (tlook T t) (st.ev x) x h m st K ⟨⟩) ∧
  (∀ ti r x h m st K l, tcC ti (.row r) x h m st K l = tcR ti x h m K (frzX [r] st) ⟨⟩) ∧
  (∀ ti b s e x h m st K l, tcC ti (.sl b s e) x h m st K l = tcQ ti (.sl b s e) (st.ev h) (st.ev m) (stK K st) ⟨⟩) ∧
  (∀ ti x h m K tm bx rw l, tcR ti x h m K ⟨tm, bx, rw⟩ l = tcQ ti (St.ev ⟨tm, bx, rw⟩ x) (St.ev ⟨tm, bx, rw⟩ h) (St.ev ⟨tm, bx, rw⟩ m) (stK K ⟨tm, bx, rw⟩) ⟨⟩) ∧
  (∀ a c e es eb ez q b sz els kd n kd' n' k l, tcQ (some ⟨a, c, .sl e es eb ez, q⟩) (.sl b sz els) (.v (.int kd n)) (.v (.int kd' n')) k l = if sz = es then Vc (n' = n ∧ 0 ≤ n ∧ n ≤ els.length) (k (.cap b sz (els.take n.toNat))) ⟨⟩ else False) ∧
  (∀ a c e es eb ez q b s els y st K l, appX (some ⟨a, c, .sl e es eb ez, q⟩) (.cap b s els) y st K l = if s = es then app2 st es y (tcK e es eb els st K) ⟨⟩ else False) ∧
  (∀ e es eb els1 tm bx rw K els2, tcK e es eb els1 ⟨tm, bx, rw⟩ K els2 = Vc (0 < els2.length ∧ (els1.length + els2.length) * eb ≤ 140737488355328) (pass (.row (lenN rw)) ⟨tm, bx, rw ++ [.own e es (els1 ++ els2)]⟩ K ⟨⟩) ⟨⟩) ∧
  (∀ rw b s e, norm rw (.cap b s e) = .cap b s e) ∧ (∀ rw b s e, normD rw (.cap b s e) = .cap b s e) ∧ (∀ b s e, oneS (.cap b s e) = true) ∧ (∀ b s e, notRow (.cap b s e) = true) ∧ (∀ st t x lo h m, opHt st (.slice t x lo h m) = .no) :=
 ⟨fun _ _ _ _ _ _ _ _ _ => rfl, fun _ _ _ _ _ _ _ _ => rfl, fun _ _ _ _ _ _ _ _ _ _ => rfl, fun _ _ _ _ _ _ _ _ _ => rfl, fun _ _ _ _ _ _ _ _ _ _ _ _ _ _ _ _ => rfl, fun _ _ _ _ _ _ _ _ _ _ _ _ _ _ => rfl, fun _ _ _ _ _ _ _ _ _ => rfl, fun _ _ _ _ => rfl, fun _ _ _ _ => rfl, fun _ _ _ => rfl, fun _ _ _ => rfl, fun _ _ _ _ _ _ => rfl⟩
theorem sxP4 : (∀ T C ops i p fps st K l, runP T C ops (.z i p) fps st K l = zK T C ops p fps K (frzX (rowsIn st.rw (zArgs (nth ops i) st)) st)) ∧
  (∀ T C ops p fps K tm bx rw, zK T C ops p fps K ⟨tm, bx, rw⟩ = runP T C ops p fps ⟨tm, bx, rw⟩ K ⟨⟩) ∧
  (∀ d f xs ts ty ps af g st, zArgs (some ⟨d, .call ⟨.value f, ⟨xs⟩, ts⟩, ty, ps, af, g⟩) st = xs.map st.ev) := ⟨fun _ _ _ _ _ _ _ _ _ => rfl, fun _ _ _ _ _ _ _ _ _ => rfl, fun _ _ _ _ _ _ _ _ _ => rfl⟩
theorem sxP3 : ∀ T C ops i ki p j kj q m km r fps st K l, runP T C ops (.e3 i ki p j kj q m km r) fps st K l = (eStep T C ops ki (nth ops i) fps st (runPK T C ops p K) ⟨⟩ ∧ eStep T C ops kj (nth ops j) fps st (runPK T C ops q K) ⟨⟩ ∧ eStep T C ops km (nth ops m) fps st (runPK T C ops r K) ⟨⟩) := fun _ _ _ _ _ _ _ _ _ _ _ _ _ _ _ _ => rfl
theorem sxGd : ∀ T C f ps as c st K k, runC T C (.rangeFunc f ⟨ps⟩ as c) st K k = RangeW C f ps as c st K ⟨⟩ := fun _ _ _ _ _ _ _ _ _ => rfl
theorem sxH :
  (∀ T a b k c d x st K l, cvX T (some ⟨a, b, .int k, c⟩) d x st K l = convX (some ⟨a, b, .int k, c⟩) d x (stK K st) ⟨⟩) ∧
  (∀ T a b c a' b' c' x st K l, cvX T (some ⟨a, b, .str, c⟩) (some ⟨a', b', .str, c'⟩) x st K l = convX (some ⟨a, b, .str, c⟩) (some ⟨a', b', .str, c'⟩) x (stK K st) ⟨⟩) ∧
  (∀ T a b c a' b' e es eb ez c' z st K l, cvX T (some ⟨a, b, .str, c⟩) (some ⟨a', b', .sl e es eb ez, c'⟩) (.v (.string z)) st K l = (es = 1 ∧ byteT (tlook T e) = true ∧ K (.sl true 1 (bytesD z)) st)) ∧
  (∀ a b c, byteT (some ⟨a, b, .int .u8, c⟩) = true) ∧
  (∀ T a b c s j kd k l, ixX T (some ⟨a, b, .str, c⟩) (.v (.string s)) (.v (.int kd j)) k l = StrIx s j k ⟨⟩) ∧
  (∀ T a b c n e es m j kd k l, ixX T (some ⟨a, b, .arr n e es, c⟩) (.agg m) (.v (.int kd j)) k l = ix2 n es (aggT (tlook T e)) m j k ⟨⟩) ∧
  (∀ n es agg m j k l, ix2 n es (some agg) m j k l = ArrIx n es agg m j k ⟨⟩) ∧
  (∀ a b k c, aggT (some ⟨a, b, .int k, c⟩) = some false) ∧ (∀ a b c, aggT (some ⟨a, b, .str, c⟩) = some false) ∧ (∀ a b c, aggT (some ⟨a, b, .scalar, c⟩) = some false) ∧ (∀ a b x y z u c, aggT (some ⟨a, b, .sl x y z u, c⟩) = some false) ∧
  (∀ a b fs c, aggT (some ⟨a, b, .st fs, c⟩) = some true) ∧ (∀ a b x y z c, aggT (some ⟨a, b, .arr x y z, c⟩) = some true) ∧
  (∀ kd n, notStr (.v (.int kd n)) = true) ∧ (∀ n, notStr (.v (.bool n)) = true) ∧
  (∀ k l, arrK true k (some l) = k (.agg l)) ∧ (∀ k c, arrK false k (some [c]) = (oneS c = true ∧ k c)) := by
 refine ⟨fun _ _ _ _ _ _ _ _ _ _ => ?_, fun _ _ _ _ _ _ _ _ _ _ _ => ?_, fun _ _ _ _ _ _ _ _ _ _ _ _ _ _ _ => ?_, fun _ _ _ => rfl, fun _ _ _ _ _ _ _ _ _ => rfl, fun _ _ _ _ _ _ _ _ _ _ _ _ => rfl, fun _ _ _ _ _ _ _ => rfl, fun _ _ _ _ => rfl, fun _ _ _ => rfl, fun _ _ _ => rfl, fun _ _ _ _ _ _ _ => rfl, fun _ _ _ _ => rfl, fun _ _ _ _ _ _ => rfl, fun _ _ => rfl, fun _ => rfl, fun _ _ => rfl, fun _ _ => rfl⟩
 ·simp [cvX]
 ·simp [cvX]
 ·simp [cvX]
theorem StrIx.nat {s : ByteArray} {j : Nat} {k : SV → Prop} (h : j < s.size) (hk : k (.v (.int .u8 ((s[j].toNat : Nat) : Int)))) : StrIx s (j : Int) k ⟨⟩ := ⟨Int.natCast_nonneg j, s[j], by simp [h], hk⟩
theorem ArrIx.go {n es : Nat} {agg : Bool} {m : List SV} {j : Int} {k : SV → Prop} (h : 0 ≤ j ∧ j < n) (hk : arrK agg k (takeN es (dropN (j.toNat * es) m))) : ArrIx n es agg m j k ⟨⟩ := ⟨h.1, h.2, hk⟩

/-! a loop that serves another one -/
def ovG (ys : List (List SV)) : List Rw → List Rw
 | .gh _ _ :: l => .gh false ys :: l
 | l => l
def upSG (u : List (Nat × SV)) (b : List (Nat × List SV)) (r : List (Nat × List (List D))) (a : List Rw) (ys : List (List SV)) (st : St) : St := ⟨u ++ delT u st.tm, ovB b st.bx, ovG ys (ovR r st.rw ++ a)⟩
theorem LoopW.upG {P : Program} {T : Tab} {w0 : World} {N : Nat} {kp : Hp} {pin : Pin} {dr : Bool} {α : Type} (hT : TabOk P T) (U : α → List (Nat × SV)) (B : α → List (Nat × List SV)) (R : α → List (Nat × List (List D))) (A : α → List Rw) (Y : α → List (List SV)) (J : α → Prop) (m : α → Nat) {c : Code} {st : St} {K : Exit → St → Prop} (x0 : α)
  (h0 : leA ⟨P, w0, N, kp, pin, dr⟩ st (upSG (U x0) (B x0) (R x0) (A x0) (Y x0) st)) (hJ : J x0)
  (h : ∀ x, J x → runC T ⟨P, w0, N, kp, pin, dr⟩ c (upSG (U x) (B x) (R x) (A x) (Y x) st) (loopK ⟨P, w0, N, kp, pin, dr⟩ (fun x => upSG (U x) (B x) (R x) (A x) (Y x) st) J m x K) ⟨⟩) : LoopW ⟨P, w0, N, kp, pin, dr⟩ c st K ⟨⟩ :=
 LoopW.inv hT (fun x => upSG (U x) (B x) (R x) (A x) (Y x) st) J m x0 (StLe.auto h0) hJ h
theorem sxU : (∀ u b r a ys tm bx rw, upSG u b r a ys ⟨tm, bx, rw⟩ = ⟨u ++ delT u tm, ovB b bx, ovG ys (ovR r rw ++ a)⟩) ∧ (∀ ys s zs l, ovG ys (.gh s zs :: l) = .gh false ys :: l) ∧ (∀ rw, ovR [] rw = rw) ∧ (∀ bx, ovB [] bx = bx) ∧ (∀ yd w, (pinI yd w).nb = 0) ∧ (∀ yd w, (pinI yd w).nr = 0) ∧ (∀ f l xs, callHt (.clo f l) xs = htC (xs ++ l)) ∧ (∀ f x cs xs, callHt (.v (.func (.func f) x ⟨cs⟩)) xs = htC (xs ++ cs.map .v)) ∧ (∀ f x cs xs, callHt (.v (.func (.yield f) x cs)) xs = .no) ∧ htC [] = .no ∧ (∀ b o l, htC (.box b o :: l) = .all) ∧ (∀ x l, htC (.v x :: l) = .no) ∧ ((∀ a b c, htC [.sl a b c] = .no) ∧ (∀ a b c x l, htC (.sl a b c :: .row x :: l) = .all) ∧ (∀ a b c x y z l, htC (.sl a b c :: .sl x y z :: l) = .no) ∧ (∀ a b c x l, htC (.sl a b c :: .v x :: l) = .no) ∧ (∀ a b c x l, htC (.sl a b c :: .agg x :: l) = .no) ∧ (∀ a b c x y l, htC (.sl a b c :: .pt x y :: l) = .no) ∧ (∀ a b c x y l, htC (.sl a b c :: .box x y :: l) = .no) ∧ (∀ a b c x y l, htC (.sl a b c :: .clo x y :: l) = .no)) ∧ (∀ a b l, htC (.pt a b :: l) = .no) ∧ (∀ a l, htC (.row a :: l) = .all) ∧ (∀ a b c d l, htC (.relt a b c d :: l) = .no) ∧ (∀ a l, htC (.agg a :: l) = .no) ∧ (∀ a l, htC (.tup a :: l) = .no) ∧ (∀ a b l, htC (.clo a b :: l) = .no) ∧ (∀ l, htC (.any :: l) = .no) ∧ (∀ st, safe1 st .all .no = True) ∧ (∀ p : Prop, (True ∧ p) = p) := ⟨fun _ _ _ _ _ _ _ _ => rfl, fun _ _ _ _ => rfl, fun _ => rfl, fun _ => rfl, fun _ _ => rfl, fun _ _ => rfl, fun _ _ _ => rfl, fun _ _ _ _ => rfl, fun _ _ _ _ => rfl, rfl, fun _ _ _ => rfl, fun _ _ => rfl, ⟨fun _ _ _ => rfl, fun _ _ _ _ _ => rfl, fun _ _ _ _ _ _ _ => rfl, fun _ _ _ _ _ => rfl, fun _ _ _ _ _ => rfl, fun _ _ _ _ _ _ => rfl, fun _ _ _ _ _ _ => rfl, fun _ _ _ _ _ _ => rfl⟩, fun _ _ _ => rfl, fun _ _ => rfl, fun _ _ _ _ _ => rfl, fun _ _ => rfl, fun _ _ => rfl, fun _ _ _ => rfl, fun _ => rfl, fun _ => rfl, fun p => true_and p⟩
end Go.Vx
