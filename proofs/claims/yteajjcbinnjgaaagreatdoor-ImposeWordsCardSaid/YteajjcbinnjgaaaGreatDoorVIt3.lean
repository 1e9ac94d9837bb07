/-
  What goes into results and calls: own rows and own boxes that become immutable; equations for loops over iterators.
-/
import Derived.Test.YteajjcbinnjgaaaGreatDoorVIt2
namespace Go.Vx
open Go Go.RowKit
set_option linter.unusedSimpArgs false

section
variable {C : Cx} {st : St} {K : SV → St → Prop}
theorem htC_norm (rw : List Rw) (args : List SV) : htC args = .all ∨ htC (normDL rw args) = htC args := by
  cases args with
  | nil => exact .inr rfl
  | cons x l => cases x <;> first | exact .inr rfl | exact .inl rfl
theorem Fr.cut {g g1 : Gh} {w w' : World} {d args : List SV} (h : Fr g1 (htC d) w w') (e : htC args = .all ∨ htC d = htC args) : Fr g (htC args) w w' := by
  rcases e with e | e
  · rw [e]; exact Fr.all
  · rw [e] at h
    cases args with
    | nil => exact h
    | cons x l => cases x <;> first | exact Fr.all | exact h
/-- a call to which own rows go for good. -/
theorem CallI.frz {f : Nat} {args : List SV} (rs : List Nat) {st1 : St} {d : List SV} (hst : frzX rs st = st1) (hd : normDL st1.rw args = d) (h : CallI C f d st1 K ⟨⟩) : CallI C f args st K ⟨⟩ := fun g a w ht hm vs hr => by
  obtain ⟨g1, hle, ht1, hm1, _, _⟩ := frz_sound rs ht hm
  rw [hst] at ht1 hm1
  have := h g1 a w ht1 hm1 vs (by rw [← hd]; exact rels_normD ht1 _ _ (rels_mono hle _ _ hr))
  exact ⟨this.1, this.2.mono fun e w' ⟨v, he, g', st', sv, k1, k2, k3, k4, k5⟩ => ⟨v, he, g', st', sv, k1, k2, k3, k4, fun hdr => ⟨hle.trans (k5 hdr).1, (k5 hdr).2.cut (by rw [← hd]; exact htC_norm _ _)⟩⟩⟩
end

/-! ### own boxes in a result -/
/-! boxes in a list of values; their cells as data -/
mutual
def boxV : SV → List Nat
  | .box k _ => [k]
  | .agg l => boxL l
  | .tup l => boxL l
  | .clo _ l => boxL l
  | _ => []
def boxL : List SV → List Nat
  | [] => []
  | x :: l => boxV x ++ boxL l
end
def bxD (rw : List Rw) : Option (Option Bx) → Option (List D)
  | some (some b) => toDL rw b.cells
  | _ => none
def assB : List (Nat × List D) → Nat → Option (List D)
  | [], _ => none
  | (k, ds) :: l, j => if k = j then some ds else assB l j
def bxPs (rw : List Rw) (bx : List (Option Bx)) : List Nat → Option (List (Nat × List D))
  | [] => some []
  | k :: l => bx1 (bxD rw (nth bx k)) k (bxPs rw bx l)
  where bx1 (x : Option (List D)) (k : Nat) (r : Option (List (Nat × List D))) : Option (List (Nat × List D)) :=
  match x, r with
  | some ds, some r => some ((k, ds) :: r)
  | _, _ => none
def ptB (k o : Nat) : Option (List D) → SV
  | some ds => .pt true (dropN o ds)
  | none => .box k o
mutual
def bxV (ps : List (Nat × List D)) : SV → SV
  | .box k o => ptB k o (assB ps k)
  | .agg l => .agg (bxL ps l)
  | .tup l => .tup (bxL ps l)
  | .clo f l => .clo f (bxL ps l)
  | x => x
def bxL (ps : List (Nat × List D)) : List SV → List SV
  | [] => []
  | x :: l => bxV ps x :: bxL ps l
end
mutual
theorem rel_bxV {g g' : Gh} (hle : g.Le g') {ps : List (Nat × List D)} (hp : ∀ k ds, assB ps k = some ds → ∀ o u, rel g (.box k o) u → rel g' (.pt true (dropN o ds)) u) : ∀ (v : SV) (u : Value), rel g v u → rel g' (bxV ps v) u
  | .box k o, u, h => by
    simp only [bxV]
    cases hx : assB ps k with
    | none => exact rel_mono hle _ _ h
    | some ds => exact hp k ds hx o u h
  | .agg l, u, ⟨cs, h1, h2⟩ => by simp only [bxV]; exact ⟨cs, h1, rels_bxV hle hp l _ h2⟩
  | .tup l, u, ⟨cs, h1, h2⟩ => by simp only [bxV]; exact ⟨cs, h1, rels_bxV hle hp l _ h2⟩
  | .clo f l, u, ⟨cs, h1, h2⟩ => by simp only [bxV]; exact ⟨cs, h1, rels_bxV hle hp l _ h2⟩
  | .any, u, h => rel_mono hle _ _ h
  | .v _, u, h => rel_mono hle _ _ h
  | .sl .., u, h => rel_mono hle _ _ h
  | .pt .., u, h => rel_mono hle _ _ h
  | .row _, u, h => rel_mono hle _ _ h
  | .relt .., u, h => rel_mono hle _ _ h
  | .arm, u, h => rel_mono hle _ _ h
  | .ali .., u, h => rel_mono hle _ _ h
theorem rels_bxV {g g' : Gh} (hle : g.Le g') {ps : List (Nat × List D)} (hp : ∀ k ds, assB ps k = some ds → ∀ o u, rel g (.box k o) u → rel g' (.pt true (dropN o ds)) u) : ∀ (l : List SV) (us : List Value), rels g l us → rels g' (bxL ps l) us
  | [], [], _ => trivial
  | x :: l, u :: us, h => ⟨rel_bxV hle hp x u h.1, rels_bxV hle hp l us h.2⟩
  | [], _ :: _, h => h.elim
  | _ :: _, [], h => h.elim
end
def endY (l : List SV) (post : Ret → Prop) (st : St) (_ : Lk post) : Prop :=
  match bxPs st.rw st.bx (dedN (boxL l) []) with
  | some ps => EndW (normD st.rw (bxV ps (tupV l))) st.rw post ⟨⟩
  | none => False
def endX2 (l : Option (List SV)) (st : St) (post : Ret → Prop) (_ : Lk (st, post)) : Prop :=
  match l with
  | some l => endY l post (frzX (rowsIn st.rw (l ++ bxVals st.bx)) st) ⟨⟩
  | none => False
/-- own boxes in the result become immutable. -/
def finB (T : Tab) (rs : List ResultVar) (post : Ret → Prop) (e : Exit) (st : St) : Prop :=
  match e with
  | .ret => endX2 (ressS T st rs) st post ⟨⟩
  | .normal => endX2 (ressS T st rs) st post ⟨⟩
  | _ => False
/-! ### equations, for simp -/
theorem pinF0 : pinF pin0 := ⟨rfl, rfl⟩
theorem sxZ :
    (∀ p ti k x st K l, slcY p ti (.box k 0) x none none st K l = slB p ti k (nth st.bx k) st K ⟨⟩) ∧
    (∀ p ti b cs x st K l, slcY p ti (.pt b cs) x none none st K l = slP ti b cs (stK K st) ⟨⟩) ∧
    (∀ p ti r x lo hi st K l, slcY p ti (.row r) x lo hi st K l = slcX ti (.row r) x lo hi st K ⟨⟩) ∧
    (∀ p ti b s e x lo hi st K l, slcY p ti (.sl b s e) x lo hi st K l = slcX ti (.sl b s e) x lo hi st K ⟨⟩) ∧
    (∀ p ti y x lo hi st K l, slcY p ti (.v y) x lo hi st K l = slcX ti (.v y) x lo hi st K ⟨⟩) ∧
    (∀ a b n e es m k t cs st K l, slB pin0 (some ⟨a, b, .arr n e es, m⟩) k (some (some ⟨t, cs⟩)) st K l = slB2 n es k (toDL st.rw cs) st K ⟨⟩) ∧
    (∀ n es k ds st K l, slB2 n es k (some ds) st K l = slB3 k es ds (chuO es n ds) st K ⟨⟩) ∧
    (∀ k es ds els st K l, slB3 k es ds (some els) st K l = pass (.sl true es els) { st with bx := setN st.bx k none, tm := subT k ds st.tm } K ⟨⟩) ∧
    (∀ a c n e es m b cs k l, slP (some ⟨a, c, .arr n e es, m⟩) b cs k l = slP2 b es (chuO es n cs) k ⟨⟩) ∧
    (∀ b es els k l, slP2 b es (some els) k l = k (.sl b es els)) ∧
    (∀ es ds, chuO es 0 ds = some []) ∧ (∀ es n ds, chuO es (n + 1) ds = chu2 (takeN es ds) (chuO es n (dropN es ds))) ∧ (∀ e l, chu2 (some e) (some l) = some (e :: l)) ∧
    (∀ k ds, subT k ds [] = []) ∧ (∀ k ds t x l, subT k ds ((t, x) :: l) = (t, subV k ds x) :: subT k ds l) ∧
    (∀ k ds j o, subV k ds (.box j o) = if j = k then .pt true (dropN o ds) else .box j o) ∧ (∀ k ds x, subV k ds (.v x) = .v x) ∧ (∀ k ds b s e, subV k ds (.sl b s e) = .sl b s e) ∧ (∀ k ds b e, subV k ds (.pt b e) = .pt b e) ∧ (∀ k ds r, subV k ds (.row r) = .row r) ∧
    (∀ k ds a b c d, subV k ds (.relt a b c d) = .relt a b c d) ∧ (∀ k ds l, subV k ds (.agg l) = .agg l) ∧ (∀ k ds l, subV k ds (.tup l) = .tup l) ∧ (∀ k ds f l, subV k ds (.clo f l) = .clo f l) ∧ (∀ k ds, subV k ds .any = .any) := by
  refine ⟨fun _ _ _ _ _ _ _ => rfl, fun _ _ _ _ _ _ _ _ => rfl, fun _ _ _ _ _ _ _ _ _ => ?_, fun _ _ _ _ _ _ _ _ _ _ _ => ?_, fun _ _ _ _ _ _ _ _ _ => ?_, fun _ _ _ _ _ _ _ _ _ _ _ _ => ?_, fun _ _ _ _ _ _ _ => rfl, fun _ _ _ _ _ _ _ => rfl, fun _ _ _ _ _ _ _ _ _ _ => rfl, fun _ _ _ _ _ => rfl, fun _ _ => rfl, fun _ _ _ => rfl, fun _ _ => rfl, fun _ _ => rfl, fun _ _ _ _ _ => rfl, fun _ _ _ _ => rfl, fun _ _ _ => rfl, fun _ _ _ _ _ => rfl, fun _ _ _ _ => rfl, fun _ _ _ => rfl, fun _ _ _ _ _ _ => rfl, fun _ _ _ => rfl, fun _ _ _ => rfl, fun _ _ _ _ => rfl, fun _ _ => rfl⟩
  · simp [slcY]
  · simp [slcY]
  · simp [slcY]
  · simp [slB, pinF0]
theorem sxG :
    (ghI [] = []) ∧ (∀ e s els l, ghI (.own e s els :: l) = []) ∧ (∀ s els l, ghI (.frz s els :: l) = []) ∧ (∀ l, ghI (.gone :: l) = []) ∧ (∀ s ys l, ghI (.gh s ys :: l) = [0]) ∧
    (∀ m, gamG [] m = m) ∧ (∀ e s els l m, gamG (.own e s els :: l) m = m) ∧ (∀ s ys l x m, gamG (.gh s ys :: l) (x :: m) = some 0 :: m) ∧
    (∀ rw s ys l r ks, leR rw (.gh s ys :: l) (some r :: ks) = (leG (nth rw r) s ys ∧ leR rw l ks)) ∧
    (∀ s' ys' s ys, leG (some (.gh s' ys')) s ys = (s = s' ∧ ys = ys')) ∧
    (∀ C l args st K k, callX C (.v (.func (.yield l) ⟨[]⟩ ⟨[]⟩)) args st K k = YldI C l args st K ⟨⟩) ∧
    (∀ T P w0 N kp pin c K st, asK T P w0 N kp pin c K .normal st = ∀ fr, runC T ⟨P, w0, N, kp, ⟨pin.nb, pin.nr, pin.ρ, pin.σ, pin.μ, pin.np, ⟨pin.ho.yd, pin.ho.ro, false, some fr, pin.ho.lp, pin.ho.sz⟩⟩, false⟩ c st K ⟨⟩) ∧
    (∀ C J tm0 bx rw K st, rdK C J tm0 bx rw K .normal st = (J ∧ leA C ⟨tm0, st.bx, st.rw⟩ ⟨tm0, bx, rw⟩)) ∧
    (∀ C J tm0 bx rw K st, rdK C J tm0 bx rw K .ret st = K .ret ⟨tm0, st.bx, st.rw⟩) ∧
    (∀ C J tm0 bx rw K i st, rdK C J tm0 bx rw K (.exit i) st = K (.exit i) ⟨tm0, st.bx, st.rw⟩) ∧
    (∀ p ps x xs tm, setPs (p :: ps) (x :: xs) tm = setPs ps xs ((p, x) :: tm)) ∧ (∀ tm, setPs [] [] tm = tm) ∧
    (∀ xs st, finI xs .normal st = endG xs (nth st.rw 0)) ∧ (∀ xs st, finI xs .ret st = endG xs (nth st.rw 0)) ∧
    (∀ xs s ys, endG xs (some (.gh s ys)) = (s = false → ys = xs)) ∧
    (∀ T rs post st, finB T rs post .ret st = endX2 (ressS T st rs) st post ⟨⟩) ∧ (∀ T rs post st, finB T rs post .normal st = endX2 (ressS T st rs) st post ⟨⟩) ∧
    (∀ l st post k, endX2 (some l) st post k = endY l post (frzX (rowsIn st.rw (l ++ bxVals st.bx)) st) ⟨⟩) ∧
    (∀ l st, nth (Rw.gh l st :: ([] : List Rw)) 0 = some (.gh l st)) := by
  refine ⟨rfl, (by intros; rfl), (by intros; rfl), (by intros; rfl), (by intros; rfl), (by intros; rfl), (by intros; rfl), (by intros; rfl), (by intros; rfl), (by intros; rfl), fun _ _ _ _ _ _ => ?_, (by intros; rfl), (by intros; rfl), (by intros; rfl), (by intros; rfl), (by intros; rfl), (by intros; rfl), (by intros; rfl), (by intros; rfl), (by intros; rfl), (by intros; rfl), (by intros; rfl), (by intros; rfl), (by intros; rfl)⟩
  simp [callX]
def zK (T : Tab) (C : Cx) (ops : List Oper) (p : Plan) (fps : List (Nat × Fp)) (K : St → Prop) (st : St) : Prop := runP T C ops p fps st K ⟨⟩
theorem sxCv : (∀ T a b e es eb ez c a' b' c' r tm bx rw K l, cvX T (some ⟨a, b, .sl e es eb ez, c⟩) (some ⟨a', b', .str, c'⟩) (.row r) ⟨tm, bx, rw⟩ K l = (byteT (tlook T e) = true ∧ CvR (nth rw r) K ⟨tm, bx, rw⟩ ⟨⟩)) := fun _ _ _ _ _ _ _ _ _ _ _ _ _ _ _ _ _ => rfl
theorem sxP4 : (∀ T C ops i p fps st K l, runP T C ops (.z i p) fps st K l = zK T C ops p fps K (frzX (rowsIn st.rw (zArgs (nth ops i) st)) st)) ∧
    (∀ T C ops p fps K tm bx rw, zK T C ops p fps K ⟨tm, bx, rw⟩ = runP T C ops p fps ⟨tm, bx, rw⟩ K ⟨⟩) ∧
    (∀ d f xs ts ty ps af g st, zArgs (some ⟨d, .call ⟨.value f, ⟨xs⟩, ts⟩, ty, ps, af, g⟩) st = xs.map st.ev) := ⟨fun _ _ _ _ _ _ _ _ _ => rfl, fun _ _ _ _ _ _ _ _ _ => rfl, fun _ _ _ _ _ _ _ _ _ => rfl⟩
theorem sxP3 : ∀ T C ops i ki p j kj q m km r fps st K l, runP T C ops (.e3 i ki p j kj q m km r) fps st K l = (eStep T C ops ki (nth ops i) fps st (runPK T C ops p K) ⟨⟩ ∧ eStep T C ops kj (nth ops j) fps st (runPK T C ops q K) ⟨⟩ ∧ eStep T C ops km (nth ops m) fps st (runPK T C ops r K) ⟨⟩) := fun _ _ _ _ _ _ _ _ _ _ _ _ _ _ _ _ => rfl
theorem sxGd : ∀ T C f ps as c st K k, runC T C (.rangeFunc f ⟨ps⟩ as c) st K k = RangeW C f ps as c st K ⟨⟩ := fun _ _ _ _ _ _ _ _ _ => rfl
theorem sxH :
    (∀ T a b k c d x st K l, cvX T (some ⟨a, b, .int k, c⟩) d x st K l = convX (some ⟨a, b, .int k, c⟩) d x (stK K st) ⟨⟩) ∧
    (∀ T a b c a' b' c' x st K l, cvX T (some ⟨a, b, .str, c⟩) (some ⟨a', b', .str, c'⟩) x st K l = convX (some ⟨a, b, .str, c⟩) (some ⟨a', b', .str, c'⟩) x (stK K st) ⟨⟩) ∧
    (∀ T a b c a' b' e es eb ez c' z st K l, cvX T (some ⟨a, b, .str, c⟩) (some ⟨a', b', .sl e es eb ez, c'⟩) (.v (.string z)) st K l = (es = 1 ∧ byteT (tlook T e) = true ∧ K (.sl true 1 (bytesD z)) st)) ∧
    (∀ a b c, byteT (some ⟨a, b, .int .u8, c⟩) = true) ∧
    (∀ T a b c s j kd k l, ixX T (some ⟨a, b, .str, c⟩) (.v (.string s)) (.v (.int kd j)) k l = StrIx s j k ⟨⟩) ∧
    (∀ T a b c n e es m j kd k l, ixX T (some ⟨a, b, .arr n e es, c⟩) (.agg m) (.v (.int kd j)) k l = ix2 n es (aggT (tlook T e)) m j k ⟨⟩) ∧
    (∀ n es agg m j k l, ix2 n es (some agg) m j k l = ArrIx n es agg m j k ⟨⟩) ∧
    (∀ a b k c, aggT (some ⟨a, b, .int k, c⟩) = some false) ∧ (∀ a b c, aggT (some ⟨a, b, .str, c⟩) = some false) ∧ (∀ a b c, aggT (some ⟨a, b, .scalar, c⟩) = some false) ∧ (∀ a b x y z u c, aggT (some ⟨a, b, .sl x y z u, c⟩) = some false) ∧
    (∀ a b fs c, aggT (some ⟨a, b, .st fs, c⟩) = some true) ∧ (∀ a b x y z c, aggT (some ⟨a, b, .arr x y z, c⟩) = some true) ∧
    (∀ kd n, notStr (.v (.int kd n)) = true) ∧ (∀ n, notStr (.v (.bool n)) = true) ∧
    (∀ k l, arrK true k (some l) = k (.agg l)) ∧ (∀ k c, arrK false k (some [c]) = (oneS c = true ∧ k c)) := by
  refine ⟨fun _ _ _ _ _ _ _ _ _ _ => ?_, fun _ _ _ _ _ _ _ _ _ _ _ => ?_, fun _ _ _ _ _ _ _ _ _ _ _ _ _ _ _ => ?_, fun _ _ _ => rfl, fun _ _ _ _ _ _ _ _ _ => rfl, fun _ _ _ _ _ _ _ _ _ _ _ _ => rfl, fun _ _ _ _ _ _ _ => rfl, fun _ _ _ _ => rfl, fun _ _ _ => rfl, fun _ _ _ => rfl, fun _ _ _ _ _ _ _ => rfl, fun _ _ _ _ => rfl, fun _ _ _ _ _ _ => rfl, fun _ _ => rfl, fun _ => rfl, fun _ _ => rfl, fun _ _ => rfl⟩
  · simp [cvX]
  · simp [cvX]
  · simp [cvX]
theorem StrIx.nat {s : ByteArray} {j : Nat} {k : SV → Prop} (h : j < s.size) (hk : k (.v (.int .u8 ((s[j].toNat : Nat) : Int)))) : StrIx s (j : Int) k ⟨⟩ := ⟨Int.natCast_nonneg j, s[j], by simp [h], hk⟩
theorem ArrIx.go {n es : Nat} {agg : Bool} {m : List SV} {j : Int} {k : SV → Prop} (h : 0 ≤ j ∧ j < n) (hk : arrK agg k (takeN es (dropN (j.toNat * es) m))) : ArrIx n es agg m j k ⟨⟩ := ⟨h.1, h.2, hk⟩

/-! a loop that serves another one -/
def ovG (ys : List (List SV)) : List Rw → List Rw
  | .gh _ _ :: l => .gh false ys :: l
  | l => l
def upSG (u : List (Nat × SV)) (b : List (Nat × List SV)) (r : List (Nat × List (List D))) (a : List Rw) (ys : List (List SV)) (st : St) : St := ⟨u ++ delT u st.tm, ovB b st.bx, ovG ys (ovR r st.rw ++ a)⟩
theorem sxU : (∀ u b r a ys tm bx rw, upSG u b r a ys ⟨tm, bx, rw⟩ = ⟨u ++ delT u tm, ovB b bx, ovG ys (ovR r rw ++ a)⟩) ∧ (∀ ys s zs l, ovG ys (.gh s zs :: l) = .gh false ys :: l) ∧ (∀ rw, ovR [] rw = rw) ∧ (∀ bx, ovB [] bx = bx) ∧ (∀ yd w, (pinI yd w).nb = 0) ∧ (∀ yd w, (pinI yd w).nr = 0) ∧ (∀ f l xs, callHt (.clo f l) xs = htC (xs ++ l)) ∧ (∀ f x cs xs, callHt (.v (.func (.func f) x ⟨cs⟩)) xs = htC (xs ++ cs.map .v)) ∧ (∀ f x cs xs, callHt (.v (.func (.yield f) x cs)) xs = .no) ∧ htC [] = .no ∧ (∀ b o l, htC (.box b o :: l) = .all) ∧ (∀ x l, htC (.v x :: l) = .no) ∧ (∀ a b c l, htC (.sl a b c :: l) = .no) ∧ (∀ a b l, htC (.pt a b :: l) = .no) ∧ (∀ a l, htC (.row a :: l) = .all) ∧ (∀ a b c d l, htC (.relt a b c d :: l) = .no) ∧ (∀ a l, htC (.agg a :: l) = .no) ∧ (∀ a l, htC (.tup a :: l) = .no) ∧ (∀ a b l, htC (.clo a b :: l) = .no) ∧ (∀ l, htC (.any :: l) = .no) ∧ (∀ st, safe1 st .all .no = True) ∧ (∀ p : Prop, (True ∧ p) = p) := ⟨fun _ _ _ _ _ _ _ _ => rfl, fun _ _ _ _ => rfl, fun _ => rfl, fun _ => rfl, fun _ _ => rfl, fun _ _ => rfl, fun _ _ _ => rfl, fun _ _ _ _ => rfl, fun _ _ _ _ => rfl, rfl, fun _ _ _ => rfl, fun _ _ => rfl, fun _ _ _ _ => rfl, fun _ _ _ => rfl, fun _ _ => rfl, fun _ _ _ _ _ => rfl, fun _ _ => rfl, fun _ _ => rfl, fun _ _ _ => rfl, fun _ => rfl, fun _ => rfl, fun p => true_and p⟩
end Go.Vx
