/-
 Facts on a program's types, as the executor's table wants them.
-/
import Derived.Test.YtgcmppghjfidfaaGreatDoorVDraw
namespace Go.Vx
open Go Go.RowKit
set_option linter.unusedSimpArgs false

section
variable {P : Program} {t : TypeId}

theorem info_of {z : Value} {s : Nat} (h : (P.info? t).map (fun i => (i.zero, i.size)) = some (some z, s)) : ∃ i, P.info? t = some i ∧ i.size = s ∧ ∃ y, i.zero = some y ∧ y.cells.toList = z.cells.toList := by
 simp only [Option.map_eq_some_iff, Prod.mk.injEq] at h
 obtain ⟨i, h1, h2, h3⟩ := h
 exact ⟨i, h1, h3, z, h2, rfl⟩
theorem size_of {s : Nat} (h : (P.info? t).map (·.size) = some s) : ∃ j, P.info? t = some j ∧ j.size = s := by
 simpa only [Option.map_eq_some_iff] using h

theorem TIok.int {k : IntKind} (hi : (P.info? t).map (fun i => (i.zero, i.size)) = some (some (.int k 0), 1)) (hu : P.underlying t = some (.int k)) : TIok P t ⟨1, [.int k 0], .int k, 0⟩ :=
 ⟨info_of hi, hu, fun h => absurd rfl h, fun _ => rfl, fun _ h => by cases h⟩
theorem TIok.str (hi : (P.info? t).map (fun i => (i.zero, i.size)) = some (some (.string ⟨#[]⟩), 1)) (hu : P.underlying t = some .string) : TIok P t ⟨1, [.string ⟨#[]⟩], .str, 0⟩ :=
 ⟨info_of hi, hu, fun h => absurd rfl h, fun _ => rfl, fun _ h => by cases h⟩
theorem TIok.scalar {z : Value} {zs : List Value} {d : TypeDesc} (hi : (P.info? t).map (fun i => (i.zero, i.size)) = some (some z, 1)) (hz : z.cells.toList = zs) (hu : P.underlying t = some d) (h1 : ∀ fs, d ≠ .struct fs) (h2 : ∀ n e, d ≠ .array n e) (h3 : ∀ ms, d ≠ .interface ms) : TIok P t ⟨1, zs, .scalar, 0⟩ :=
 ⟨by rw [← hz]; exact info_of hi, ⟨d, hu, h1, h2, h3⟩, fun h => absurd rfl h, fun _ => rfl, fun _ h => by cases h⟩
theorem TIok.ifc {ms : Array (String × TypeId)} (hi : (P.info? t).map (fun i => (i.zero, i.size)) = some (some .nilIface, 1)) (hu : P.underlying t = some (.interface ms)) : TIok P t ⟨1, [.nilIface], .ifc, 0⟩ :=
 ⟨info_of hi, ⟨ms, hu⟩, fun h => absurd rfl h, fun _ => rfl, fun _ h => by cases h⟩
theorem TIok.sl {e : TypeId} {es eb : Nat} {z : Value} {zs : List Value} (hi : (P.info? t).map (fun i => (i.zero, i.size)) = some (some (.slice none 0 0), 1)) (hu : P.underlying t = some (.slice e))
  (he : (P.info? e).map (fun i => (i.zero, i.size, i.bytes)) = some (some z, es, eb)) (hz : z.cells.toList = zs) (h1 : 0 < es) (h2 : 0 < eb) (h3 : zs.length = es) (h4 : (zs.all oneV) = true) : TIok P t ⟨1, [.slice none 0 0], .sl e es eb zs, 0⟩ := by
 simp only [Option.map_eq_some_iff, Prod.mk.injEq] at he
 obtain ⟨i, e1, e2, e3, e4⟩ := he
 exact ⟨info_of hi, ⟨hu, i, e1, e3, e4, h1, h2, fun u hu => oneV_one (List.all_eq_true.1 h4 u hu), z, e2, hz, h3⟩, fun h => absurd rfl h, fun _ => rfl, fun _ h => by cases h⟩
theorem TIok.arr {n s : Nat} {e : TypeId} {es : Nat} {z : Value} {zs : List Value} (hi : (P.info? t).map (fun i => (i.zero, i.size)) = some (some z, s)) (hz : z.cells.toList = zs) (hu : P.underlying t = some (.array n e)) (he : (P.info? e).map (·.size) = some es) : TIok P t ⟨s, zs, .arr n e es, 0⟩ :=
 ⟨by rw [← hz]; exact info_of hi, ⟨hu, size_of he⟩, fun h => absurd rfl h, fun h => by simp [Kd.agg] at h, fun _ h => by cases h⟩

theorem TIok.mp {kk : Option IntKind} {k e : TypeId} {z : Value} (hi : (P.info? t).map (fun i => (i.zero, i.size)) = some (some (.map none), 1)) (hu : P.underlying t = some (.map k e)) (hk : P.underlying k = some (match kk with | some i => .int i | none => .string)) (he : (P.info? e).map (·.zero) = some (some z)) : TIok P t ⟨1, [.map none], .mp kk z, 0⟩ := by
 simp only [Option.map_eq_some_iff] at he
 obtain ⟨j, e1, e2⟩ := he
 exact ⟨info_of hi, ⟨k, e, hu, hk, j, e1, e2⟩, fun h => absurd rfl h, fun _ => rfl, fun _ h => by cases h⟩

/-- the fields as the table has them. -/
def fieldsOk (P : Program) : List Field → List (Nat × Nat) → Prop
 | [], [] => True
 | f :: fl, (o, s) :: fs => f.offset = o ∧ (P.info? f.type).map (·.size) = some s ∧ s ≠ 0 ∧ fieldsOk P fl fs
 | _, _ => False
theorem fieldsOk_get : ∀ {fl : List Field} {fs : List (Nat × Nat)}, fieldsOk P fl fs → fl.length = fs.length ∧ ∀ (f o s : Nat), fs[f]? = some (o, s) → ∃ fd : Field, fl[f]? = some fd ∧ fd.offset = o ∧ ∃ j, P.info? fd.type = some j ∧ j.size = s ∧ s ≠ 0
 | [], [], _ => ⟨rfl, fun f o s h => by simp at h⟩
 | f :: fl, (o, s) :: fs, h => by
  obtain ⟨h1, h2, h3, h4⟩ := h
  obtain ⟨k1, k2⟩ := fieldsOk_get h4
  refine ⟨by simp [k1], fun i o' s' hi => ?_⟩
  cases i with
  | zero =>
   simp only [List.getElem?_cons_zero, Option.some.injEq, Prod.mk.injEq] at hi
   obtain ⟨rfl, rfl⟩ := hi
   obtain ⟨j, j1, j2⟩ := size_of h2
   exact ⟨f, rfl, h1, j, j1, j2, h3⟩
  | succ i => simpa using k2 i o' s' (by simpa using hi)
theorem TIok.st {n s : Nat} {fl : Array Field} {fs : List (Nat × Nat)} {z : Value} {zs : List Value} (hi : (P.info? t).map (fun i => (i.zero, i.size)) = some (some z, s)) (hz : z.cells.toList = zs) (hu : P.underlying t = some (.struct fl)) (hf : fieldsOk P fl.toList fs) (heq : n ≠ 0 → EqOk' P t n) (hsc : n ≠ 0 → ScOk P t) : TIok P t ⟨s, zs, .st fs, n⟩ :=
 ⟨by rw [← hz]; exact info_of hi, ⟨fl, hu, by simpa using (fieldsOk_get hf).1, fun f o s h => by simpa using (fieldsOk_get hf).2 f o s h⟩, heq, fun h => by simp [Kd.agg] at h, fun _ _ h => hsc h⟩

/-! ### '==' on structs of ints -/
theorem part_int {as : List Int} {i : Nat} {n : Int} (hi : as[i]? = some n) {ty : TypeId} (hu : P.underlying ty = some (.int .i64)) (w : World) : (part ty (as.map (Value.int .i64)).toArray i).run P w = .ok (.int .i64 n) w := by
 simp [part, isAgg, run_underlying hu, hi]

theorem eqFields_run {as bs : List Int} (d : Nat) (w : World) : ∀ fl : List Field, (∀ f ∈ fl, f.name ≠ "_" ∧ P.underlying f.type = some (.int .i64) ∧ f.offset < as.length ∧ f.offset < bs.length) →
  (Op.eqFields (d + 1) (as.map (Value.int .i64)).toArray (bs.map (Value.int .i64)).toArray fl).run P w = .ok (fl.all fun f => as[f.offset]? == bs[f.offset]?) w
 | [], _ => by simp [Op.eqFields]
 | f :: fl, h => by
  obtain ⟨h1, h2, h3, h4⟩ := h f (by simp)
  have ih := eqFields_run d w fl fun f hf => h f (by simp [hf])
  have ea : as[f.offset]? = some as[f.offset] := List.getElem?_eq_getElem h3
  have eb : bs[f.offset]? = some bs[f.offset] := List.getElem?_eq_getElem h4
  simp only [Op.eqFields, Sem.run_bind, Sem.run_ite, ne_eq, h1, not_false_eq_true, if_true, part_int ea h2, part_int eb h2, Result.andThen_ok, run_equalIn_int w d f.type .i64 .i64 _ _ h2, List.all_cons, ea, eb]
  by_cases he : as[f.offset] = bs[f.offset]
  ·simp [he, ih]
  ·simp [he]

theorem EqOk.of {n : Nat} {fl : Array Field} (hu : P.underlying t = some (.struct fl)) (hg : P.eqGuardType P.depth t = false) (hp : P.stoodInHeld t = false)
  (hall : ∀ f ∈ fl.toList, f.name ≠ "_" ∧ P.underlying f.type = some (.int .i64)) (hoff : fl.toList.map (·.offset) = List.range n) : EqOk P t n := by
 intro as bs ha hb w x y
 have hmem : ∀ f ∈ fl.toList, f.offset < n := fun f hf => by
  have : f.offset ∈ fl.toList.map (·.offset) := List.mem_map.2 ⟨f, hf, rfl⟩
  rw [hoff] at this; simpa using this
 have hft : P.fieldsOf t = fl := by simp [Program.fieldsOf, hu]
 have hrun : (Op.equalIn 10000 t (.agg (as.map (Value.int .i64)).toArray) (.agg (bs.map (Value.int .i64)).toArray)).run P w = .ok (decide (as = bs)) w := by
  rw [show (10000 : Nat) = 9999 + 1 from rfl, run_equalIn_struct w 9999 t _ _ (by rw [hft]; exact hu) hp, hft, show (9999 : Nat) = 9998 + 1 from rfl, eqFields_run 9998 w fl.toList fun f hf => ⟨(hall f hf).1, (hall f hf).2, by rw [ha]; exact hmem f hf, by rw [hb]; exact hmem f hf⟩]
  congr 1
  rw [Bool.eq_iff_iff, List.all_eq_true, decide_eq_true_eq]
  constructor
  ·intro h
   apply List.ext_getElem?
   intro i
   by_cases hi : i < n
   ·have : i ∈ fl.toList.map (·.offset) := by rw [hoff]; simpa using hi
    obtain ⟨f, hf, rfl⟩ := List.mem_map.1 this
    simpa using h f hf
   ·rw [List.getElem?_eq_none (by omega), List.getElem?_eq_none (by omega)]
  ·intro h f _; rw [h]; simp
 constructor
 ·simp only [Sem.run_bind, run_eqGuard_agg w .eql t x y _ _ hg, Result.andThen_ok, run_eql_struct, hrun]
 ·simp only [Sem.run_bind, run_eqGuard_agg w .neq t x y _ _ hg, Result.andThen_ok, run_neq_struct, hrun]
  simp
end

/-! ### '==' on structs of ints and strings -/
section
variable {P : Program} {t : TypeId}
def flOk (P : Program) : List Field → Nat → Nat → Prop
 | [], _, c => c = 1
 | f :: l, o, c => f.name ≠ "_" ∧ f.offset = o ∧ P.underlying f.type = some (if c % 2 = 1 then .int .i64 else .string) ∧ 2 ≤ c ∧ flOk P l (o + 1) (c / 2)
theorem part_sc {as : List Sc} {i : Nat} {x : Sc} (hi : as[i]? = some x) {ty : TypeId} {c : Nat} (hu : P.underlying ty = some (if c % 2 = 1 then .int .i64 else .string)) (w : World) : (part ty (as.map Sc.v).toArray i).run P w = .ok x.v w := by
 split at hu <;> simp [part, isAgg, run_underlying hu, hi]
theorem eqSc_run {as bs : List Sc} (d : Nat) (w : World) : ∀ (fl : List Field) (o c : Nat), flOk P fl o c → shOk c (as.drop o) = true → shOk c (bs.drop o) = true →
  (Op.eqFields (d + 1) (as.map Sc.v).toArray (bs.map Sc.v).toArray fl).run P w = .ok (decide (as.drop o = bs.drop o)) w
 | [], o, c, h, ha, hb => by
  have key : ∀ l : List Sc, shOk c l = true → l = [] := fun l hl => by
   have hc : c = 1 := h
   subst hc
   cases l with
   | nil => rfl
   | cons x l => cases x <;> simp [shOk] at hl
  rw [key _ ha, key _ hb]
  simp [Op.eqFields]
 | f :: fl, o, c, h, ha, hb => by
  obtain ⟨h1, h2, h3, h4, h5⟩ := h
  have key : ∀ l : List Sc, shOk c l = true → ∃ x l', l = x :: l' ∧ shOk (c / 2) l' = true ∧ ((c % 2 = 1 ∧ ∃ n, x = .i n) ∨ (c % 2 = 0 ∧ ∃ n, x = .s n)) := fun l hl => by
   cases l with
   | nil => simp [shOk] at hl; omega
   | cons x l =>
    cases x with
    | i n => simp only [shOk, Bool.and_eq_true, decide_eq_true_eq] at hl; exact ⟨_, _, rfl, hl.2, .inl ⟨hl.1.1, n, rfl⟩⟩
    | s n => simp only [shOk, Bool.and_eq_true, decide_eq_true_eq] at hl; exact ⟨_, _, rfl, hl.2, .inr ⟨hl.1.1, n, rfl⟩⟩
  obtain ⟨x, l1, e1, s1, k1⟩ := key _ ha
  obtain ⟨y, l2, e2, s2, k2⟩ := key _ hb
  have tl : ∀ {l : List Sc} {x l'}, l.drop o = x :: l' → l[o]? = some x ∧ l.drop (o + 1) = l' := fun {l x l'} h => by
   refine ⟨by rw [← List.head?_drop, h]; rfl, ?_⟩
   rw [← List.drop_drop, h]; rfl
  obtain ⟨a1, a2⟩ := tl e1
  obtain ⟨b1, b2⟩ := tl e2
  have ih := eqSc_run d w fl (o + 1) (c / 2) h5 (by rw [a2]; exact s1) (by rw [b2]; exact s2)
  rw [a2, b2] at ih
  rw [e1, e2]
  have hx : (Op.equalIn (d + 1) f.type x.v y.v).run P w = .ok (decide (x = y)) w := by
   rcases k1 with ⟨c1, n, rfl⟩ | ⟨c1, n, rfl⟩ <;> rcases k2 with ⟨c2, m, rfl⟩ | ⟨c2, m, rfl⟩
   ·rw [if_pos c1] at h3
    simp only [Sc.v]
    rw [run_equalIn_int w d f.type .i64 .i64 _ _ h3]
    congr 1; rw [Bool.eq_iff_iff]; simp
   ·omega
   ·omega
   ·rw [if_neg (by omega)] at h3
    simp only [Sc.v]
    rw [run_equalIn_string w d f.type _ _ h3]
    congr 1; rw [bytes_eql, Bool.eq_iff_iff]; simp
  simp only [Op.eqFields, Sem.run_bind, Sem.run_ite, ne_eq, h1, not_false_eq_true, if_true, h2, part_sc a1 h3, part_sc b1 h3, Result.andThen_ok, hx]
  by_cases he : x = y
  ·simp [he, ih]
  ·simp [he]
theorem EqS.of {c : Nat} {fl : Array Field} (hu : P.underlying t = some (.struct fl)) (hg : P.eqGuardType P.depth t = false) (hp : P.stoodInHeld t = false) (hall : flOk P fl.toList 0 c) : EqS P t c := by
 intro as bs ha hb w x y
 have hft : P.fieldsOf t = fl := by simp [Program.fieldsOf, hu]
 have hrun : (Op.equalIn 10000 t (.agg (as.map Sc.v).toArray) (.agg (bs.map Sc.v).toArray)).run P w = .ok (decide (as = bs)) w := by
  rw [show (10000 : Nat) = 9999 + 1 from rfl, run_equalIn_struct w 9999 t _ _ (by rw [hft]; exact hu) hp, hft, show (9999 : Nat) = 9998 + 1 from rfl]
  exact eqSc_run 9998 w fl.toList 0 c hall ha hb
 constructor
 ·simp only [Sem.run_bind, run_eqGuard_agg w .eql t x y _ _ hg, Result.andThen_ok, run_eql_struct, hrun]
 ·simp only [Sem.run_bind, run_eqGuard_agg w .neq t x y _ _ hg, Result.andThen_ok, run_neq_struct, hrun]
  simp
end

theorem ScOk.of {P : Program} {t : TypeId} {fl : Array Field} (hu : P.underlying t = some (.struct fl)) (hall : ∀ f ∈ fl.toList, f.name ≠ "_" ∧ P.underlying f.type = some (.int .i64)) : ScOk P t := fun fl' h f fd hf => by
 rw [hu] at h; cases h
 exact .inl (hall fd (by simpa using Array.mem_of_getElem? hf)).2
theorem flOk_get {P : Program} : ∀ {fl : List Field} {o c : Nat}, flOk P fl o c → ∀ fd ∈ fl, P.underlying fd.type = some (.int .i64) ∨ P.underlying fd.type = some .string
 | f :: fl, o, c, h, fd, hf => by
  obtain ⟨_, _, h3, _, h5⟩ := h
  rcases List.mem_cons.1 hf with rfl | hf
  ·split at h3
   ·exact .inl h3
   ·exact .inr h3
  ·exact flOk_get h5 fd hf
 | [], _, _, _, _, hf => by cases hf
theorem ScOk.ofS {P : Program} {t : TypeId} {c : Nat} {fl : Array Field} (hu : P.underlying t = some (.struct fl)) (hall : flOk P fl.toList 0 c) : ScOk P t := fun fl' h f fd hf => by
 rw [hu] at h; cases h
 exact flOk_get hall fd (by simpa using Array.mem_of_getElem? hf)
theorem BrW.dec {p : Prop} [Decidable p] {A B : Prop} {l : Lk (A, B)} (h1 : p → A) (h2 : ¬ p → B) : BrW (decide p) A B l := ⟨fun h => h1 (by simpa using h), fun h => h2 (by simpa using h)⟩
theorem BrW.yes {p : Prop} [Decidable p] {A B : Prop} {l : Lk (A, B)} (hp : p) (h1 : A) : BrW (decide p) A B l := .dec (fun _ => h1) fun h => absurd hp h
theorem BrW.no {p : Prop} [Decidable p] {A B : Prop} {l : Lk (A, B)} (hp : ¬ p) (h1 : B) : BrW (decide p) A B l := .dec (fun h => absurd h hp) fun _ => h1
theorem Vc.mk {p Q : Prop} {l : Lk Q} (h1 : p) (h2 : Q) : Vc p Q l := ⟨h1, h2⟩
theorem InK.i64 {e : Int} (h : -9223372036854775808 ≤ e ∧ e ≤ 9223372036854775807) : InK .i64 e := h

end Go.Vx
