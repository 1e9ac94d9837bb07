/-
 '==' on arrays of ints, and of structs of ints.
-/
import Derived.Test.YtgcmppghjfidfaaGreatDoorVTab
import Derived.ChangeKeysEq
namespace Go.Vx
open Go Go.RowKit
set_option linter.unusedSimpArgs false
section
variable {P : Program} {t : TypeId}
def iv (as : List Int) : Array Value := (as.map (Value.int .i64)).toArray
def PartEq (P : Program) (e : TypeId) (m : Nat) : Prop :=
 ∀ (as bs : List Int) (o : Nat), o + m ≤ as.length → o + m ≤ bs.length → ∀ (w : World) (d : Nat), ∃ a b, (part e (iv as) o).run P w = .ok a w ∧ (part e (iv bs) o).run P w = .ok b w ∧ (Op.equalIn (d + 3) e a b).run P w = .ok (decide ((as.drop o).take m = (bs.drop o).take m)) w
theorem PartEq.int (hu : P.underlying t = some (.int .i64)) : PartEq P t 1 := fun as bs o h1 h2 w d => by
 have ea : as[o]? = some as[o] := List.getElem?_eq_getElem (by omega)
 have eb : bs[o]? = some bs[o] := List.getElem?_eq_getElem (by omega)
 refine ⟨_, _, part_int ea hu w, part_int eb hu w, ?_⟩
 rw [run_equalIn_int w (d + 2) t .i64 .i64 _ _ hu]
 congr 1
 rw [Bool.eq_iff_iff]
 simp [List.take_one, List.head?_drop, ea, eb]
theorem run_part_agg {s : Nat} {fl : Array Field} {i : TypeInfo} (hu : P.underlying t = some (.struct fl)) (hi : P.info? t = some i) (hs : i.size = s) (xs : Array Value) (o : Nat) (w : World) : (part t xs o).run P w = .ok (.agg (xs.extract o (o + s))) w := by
 simp [part, isAgg, run_underlying hu, run_sizeOf w hi, hs, Program.cellsOf, hi]
theorem iv_extract (as : List Int) (o m : Nat) : (iv as).extract o (o + m) = iv ((as.drop o).take m) := by
 simp [iv, List.map_take, List.map_drop]
theorem eqStruct_run {n : Nat} {fl : Array Field} (hu : P.underlying t = some (.struct fl)) (hp : P.stoodInHeld t = false)
  (hall : ∀ f ∈ fl.toList, f.name ≠ "_" ∧ P.underlying f.type = some (.int .i64)) (hoff : fl.toList.map (·.offset) = List.range n) {as bs : List Int} (ha : as.length = n) (hb : bs.length = n) (d : Nat) (w : World) :
  (Op.equalIn (d + 2) t (.agg (iv as)) (.agg (iv bs))).run P w = .ok (decide (as = bs)) w := by
 have hmem : ∀ f ∈ fl.toList, f.offset < n := fun f hf => by
  have : f.offset ∈ fl.toList.map (·.offset) := List.mem_map.2 ⟨f, hf, rfl⟩
  rw [hoff] at this; simpa using this
 have hft : P.fieldsOf t = fl := by simp [Program.fieldsOf, hu]
 unfold iv
 rw [show d + 2 = (d + 1) + 1 from rfl, run_equalIn_struct w (d + 1) t _ _ (by rw [hft]; exact hu) hp, hft, eqFields_run d w fl.toList fun f hf => ⟨(hall f hf).1, (hall f hf).2, by rw [ha]; exact hmem f hf, by rw [hb]; exact hmem f hf⟩]
 congr 1
 rw [Bool.eq_iff_iff, List.all_eq_true, decide_eq_true_eq]
 constructor
 ·intro h
  apply List.ext_getElem?
  intro i
  by_cases hi : i < n
  ·have : i ∈ fl.toList.map (·.offset) := by rw [hoff]; simpa using hi
   obtain ⟨f, hf, rfl⟩ := List.mem_map.1 this
   simpa using h f hf
  ·rw [List.getElem?_eq_none (by omega), List.getElem?_eq_none (by omega)]
 ·intro h f _; rw [h]; simp
theorem PartEq.st {n : Nat} {fl : Array Field} {i : TypeInfo} (hu : P.underlying t = some (.struct fl)) (hi : P.info? t = some i) (hs : i.size = n) (hp : P.stoodInHeld t = false)
  (hall : ∀ f ∈ fl.toList, f.name ≠ "_" ∧ P.underlying f.type = some (.int .i64)) (hoff : fl.toList.map (·.offset) = List.range n) : PartEq P t n := fun as bs o h1 h2 w d => by
 refine ⟨_, _, run_part_agg hu hi hs _ o w, run_part_agg hu hi hs _ o w, ?_⟩
 rw [iv_extract, iv_extract, show d + 3 = (d + 1) + 2 from rfl, eqStruct_run hu hp hall hoff (by simp; omega) (by simp; omega)]
theorem eqItems_run {e : TypeId} {m : Nat} (hp : PartEq P e m) {as bs : List Int} (d : Nat) (w : World) : ∀ is : List Nat, (∀ i ∈ is, i * m + m ≤ as.length ∧ i * m + m ≤ bs.length) →
  (Op.eqItems (d + 3) e m (iv as) (iv bs) is).run P w = .ok (is.all fun i => decide ((as.drop (i * m)).take m = (bs.drop (i * m)).take m)) w
 | [], _ => by simp [Op.eqItems]
 | i :: is, h => by
  obtain ⟨h1, h2⟩ := h i (by simp)
  have ih := eqItems_run hp (as := as) (bs := bs) d w is fun j hj => h j (by simp [hj])
  obtain ⟨a, b, p1, p2, p3⟩ := hp as bs (i * m) h1 h2 w d
  simp only [Op.eqItems, Sem.run_bind, p1, p2, p3, Result.andThen_ok, List.all_cons, Sem.run_ite]
  by_cases he : (as.drop (i * m)).take m = (bs.drop (i * m)).take m
  ·simp [he, ih]
  ·simp [he]
theorem chunk_eq {m : Nat} : ∀ (n : Nat) (as bs : List Int), as.length = n * m → bs.length = n * m → ((List.range n).all (fun i => decide ((as.drop (i * m)).take m = (bs.drop (i * m)).take m)) = true ↔ as = bs)
 | 0, as, bs, ha, hb => by
  have h1 : as = [] := List.eq_nil_of_length_eq_zero (by omega)
  have h2 : bs = [] := List.eq_nil_of_length_eq_zero (by omega)
  simp [h1, h2]
 | n + 1, as, bs, ha, hb => by
  rw [Nat.succ_mul] at ha hb
  have ih := chunk_eq (m := m) n (as.take (n * m)) (bs.take (n * m)) (by rw [List.length_take, ha]; omega) (by rw [List.length_take, hb]; omega)
  have key : ∀ i, i < n → ∀ l : List Int, ((l.take (n * m)).drop (i * m)).take m = (l.drop (i * m)).take m := fun i hi l => by
   have : i * m + m ≤ n * m := by rw [← Nat.succ_mul]; exact Nat.mul_le_mul_right _ hi
   rw [List.drop_take, List.take_take, Nat.min_eq_left (by omega)]
  rw [List.all_eq_true] at ih
  rw [List.all_eq_true]
  have last : ∀ l : List Int, l.length = n * m + m → (l.drop (n * m)).take m = l.drop (n * m) := fun l hl => List.take_of_length_le (by simp; omega)
  constructor
  ·intro h
   have h1 : as.take (n * m) = bs.take (n * m) := ih.1 fun i hi => by
    have hi' : i < n := by simpa using hi
    have := h i (by simp; omega)
    rw [key i hi', key i hi']; exact this
   have h2 := h n (by simp)
   rw [decide_eq_true_eq, last as ha, last bs hb] at h2
   rw [← List.take_append_drop (n * m) as, ← List.take_append_drop (n * m) bs, h1, h2]
  ·rintro rfl i _
   simp
theorem EqOk.arr {n m : Nat} {e : TypeId} {i : TypeInfo} (hu : P.underlying t = some (.array n e)) (hi : P.info? e = some i) (hs : i.size = m) (hg : P.eqGuardType P.depth t = false) (hp : PartEq P e m) : EqOk P t (n * m) := by
 intro as bs ha hb w x y
 have hc : P.cellsOf e = m := by simp [Program.cellsOf, hi, hs]
 have hrun : (Op.equalIn 10000 t (.agg (as.map (Value.int .i64)).toArray) (.agg (bs.map (Value.int .i64)).toArray)).run P w = .ok (decide (as = bs)) w := by
  rw [show (10000 : Nat) = 9999 + 1 from rfl, run_equalIn_array w 9999 _ _ hu hi, hc, show (9999 : Nat) = 9996 + 3 from rfl]
  refine (eqItems_run hp 9996 w (List.range n) fun j hj => ?_).trans ?_
  ·have hj : j < n := by simpa using hj
   have : j * m + m ≤ n * m := by rw [← Nat.succ_mul]; exact Nat.mul_le_mul_right _ hj
   omega
  ·congr 1
   rw [Bool.eq_iff_iff, chunk_eq n as bs ha hb, decide_eq_true_eq]
 constructor
 ·simp only [Sem.run_bind, run_eqGuard_agg w .eql t x y _ _ hg, Result.andThen_ok, run_eql_struct, hrun]
 ·simp only [Sem.run_bind, run_eqGuard_agg w .neq t x y _ _ hg, Result.andThen_ok, run_neq_struct, hrun]
  simp
theorem PartEq.st' {n : Nat} {fl : Array Field} (hu : P.underlying t = some (.struct fl)) (hi : (P.info? t).map (·.size) = some n) (hp : P.stoodInHeld t = false)
  (hall : ∀ f ∈ fl.toList, f.name ≠ "_" ∧ P.underlying f.type = some (.int .i64)) (hoff : fl.toList.map (·.offset) = List.range n) : PartEq P t n := by
 obtain ⟨j, h1, h2⟩ := size_of hi
 exact PartEq.st hu h1 h2 hp hall hoff
theorem TIok.arrE {n s m q : Nat} {e : TypeId} {z : Value} {zs : List Value} (hi : (P.info? t).map (fun i => (i.zero, i.size)) = some (some z, s)) (hz : z.cells.toList = zs) (hu : P.underlying t = some (.array n e)) (he : (P.info? e).map (·.size) = some m)
  (hq : q = n * m) (hg : P.eqGuardType P.depth t = false) (hp : PartEq P e m) (hlt : q < 1000000 := by decide) : TIok P t ⟨s, zs, .arr n e m, q⟩ :=
 ⟨by rw [← hz]; exact info_of hi, ⟨hu, size_of he⟩, fun _ => by
  obtain ⟨j, h1, h2⟩ := size_of he
  have hlt' := hlt
  rw [hq] at hlt' ⊢
  exact (EqOk.arr hu h1 h2 hg hp).up hlt', fun h => by simp [Kd.agg] at h, fun _ h => by cases h⟩
end
end Go.Vx
