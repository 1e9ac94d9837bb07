/-
  Chapter 8: words are put in between, by the library's own contract.
-/
import Derived.Test.YtenohgpackcjbaaVIns
import Derived.Test.YtenohgpackcjbaaVB8
namespace Go.Proofs.Ytenohgpackcjbaa
open Go Go.Vx Go.Shelf Go.RowKit
set_option linter.unusedSimpArgs false
set_option linter.unusedVariables false
def rIns : Ren := ⟨fun | 22 => 122 | 29 => 137 | 30 => 138 | 36 => 149 | 17 => 153 | n => n, fun | 24 => 61 | 9 => 9 | 3 => 3 | 4 => 4 | 0 => 0 | n => n, fun n => n⟩
set_option maxRecDepth 100000 in
theorem laysIns : Lays2.n22 Try.prog rIns := { mixed := rfl, f17 := Try.func153, f22 := Try.func122, f29 := Try.func137, f30 := Try.func138, f36 := Try.func149, t0 := Try.underlying0, a0 := Try.isAgg0, z0 := Try.sizeOf0, v0 := Try.zeroValue0, t3 := Try.underlying3, a3 := Try.isAgg3, z3 := Try.sizeOf3, v3 := Try.zeroValue3, t4 := Try.underlying4, a4 := Try.isAgg4, z4 := Try.sizeOf4, v4 := Try.zeroValue4, t9 := Try.underlying9, a9 := Try.isAgg9, z9 := Try.sizeOf9, v9 := Try.zeroValue9, t24 := Try.underlying61, a24 := Try.isAgg61, z24 := Try.sizeOf61, v24 := Try.zeroValue61, i9 := rfl }
def vS (l : List ByteArray) : List Value := l.map Value.string
theorem rdLL_str {μ : Mu} : ∀ {l : List ByteArray} {vss : List (List Value)}, RdLL μ (l.map eS) vss → vss.flatten = vS l ∧ vss.length = l.length
  | [], [], _ => ⟨rfl, rfl⟩
  | x :: l, vs :: vss, h => by
    simp only [List.map_cons, RdLL, eS] at h
    obtain ⟨h1, h2⟩ := h
    match vs, h1 with
    | [v], h1 =>
      simp only [RdL, Rd] at h1
      obtain ⟨k1, k2⟩ := rdLL_str h2
      exact ⟨by simp [k1, vS, h1.1.1], by simp [k2]⟩
    | [], h1 => simp [RdL] at h1
    | _ :: _ :: _, h1 => simp [RdL] at h1
  | [], _ :: _, h => by simp [RdLL] at h
  | _ :: _, [], h => by simp [RdLL] at h
theorem rdLL_of {μ : Mu} : ∀ l : List ByteArray, RdLL μ (l.map eS) (l.map fun s => [Value.string s])
  | [] => by simp [RdLL]
  | x :: l => by simp only [List.map_cons, RdLL, eS, RdL, Rd]; exact ⟨⟨⟨trivial, rfl⟩, trivial⟩, rdLL_of l⟩
theorem fl_str (l : List ByteArray) : (l.map fun s => [Value.string s]).flatten = vS l := by
  induction l with
  | nil => rfl
  | cons x l ih => simp [ih, vS]
/-- an own row of texts. -/
theorem rowOk_str {μ : Mu} {base : Nat} {w : World} {v : Value} {e : TypeId} {l : List ByteArray} : RowOk μ base w v e 1 (l.map eS) ↔ w.ownsRow base e 1 v l.length (vS l) := by
  constructor
  · intro h
    obtain ⟨_, vss, h1, h2, h3⟩ := h.tab (by decide)
    obtain ⟨k1, k2⟩ := rdLL_str h3
    rwa [k1, k2] at h1
  · intro h
    exact .inl ⟨by decide, l.map fun s => [Value.string s], by rw [fl_str, List.length_map]; exact h, by simp, rdLL_of l⟩
theorem vS_len (l : List ByteArray) : (vS l).length = l.length := by simp [vS]
theorem vS_one (l : List ByteArray) : ∀ v ∈ vS l, v.oneCell' = true := fun v hv => by
  obtain ⟨s, _, rfl⟩ := List.mem_map.1 hv; rfl
/-- what stands after an insertion in place. -/
theorem ins_list {L A B R : List Value} {r0 t : Value} (hL : L = A ++ (B ++ r0 :: R)) : (updV (updV L (A.length + 1) B) A.length [t]).take (A.length + B.length + 1) = A ++ t :: B := by
  have hl : L.length = A.length + B.length + 1 + R.length := by rw [hL]; simp; omega
  apply List.ext_getElem?
  intro k
  simp only [updV, List.getElem?_take, List.getElem?_append, List.getElem?_drop, List.length_append, List.length_take, List.length_drop, List.length_singleton, hl]
  have e1 : min (A.length + 1) (A.length + B.length + 1 + R.length) = A.length + 1 := by omega
  have e2 : min A.length (A.length + 1 + B.length + (A.length + B.length + 1 + R.length - (A.length + 1 + B.length))) = A.length := by omega
  simp only [e1, e2]
  by_cases q1 : k < A.length
  · rw [hL]
    simp [q1, show k < A.length + 1 by omega, show k < A.length + B.length + 1 by omega, show k < A.length + 1 + B.length by omega, List.getElem?_append]
  · by_cases q2 : k = A.length
    · subst q2
      simp
      omega
    · by_cases q3 : k < A.length + B.length + 1
      · obtain ⟨m, rfl⟩ : ∃ m, k = A.length + 1 + m := ⟨k - (A.length + 1), by omega⟩
        simp [q3, show ¬ A.length + 1 + m < A.length by omega, show A.length + 1 + m - A.length = m + 1 by omega, show ¬ A.length + 1 + (A.length + 1 + m - (A.length + 1)) < A.length + 1 by omega, show m < B.length by omega, show A.length + 1 + m - (A.length + 1) = m by omega, show ¬ m + 1 < 1 by omega, Nat.add_assoc]
        rw [if_pos (by omega), if_neg (by omega), show 1 + m = m + 1 by omega, List.getElem?_cons_succ]
        congr 1
        omega
      · obtain ⟨m, rfl⟩ : ∃ m, k = A.length + B.length + 1 + m := ⟨k - (A.length + B.length + 1), by omega⟩
        rw [if_neg q3, if_neg (by omega), show A.length + B.length + 1 + m - A.length = (B.length + m) + 1 by omega, List.getElem?_cons_succ, List.getElem?_eq_none (by omega)]
theorem updV_at (A M R vs : List Value) (h : M.length = vs.length) : updV (A ++ (M ++ R)) A.length vs = A ++ (vs ++ R) := by
  unfold updV
  rw [List.take_left, ← h, ← List.drop_drop, List.drop_left, List.drop_left, List.append_assoc]
theorem insert_s (l : List ByteArray) (i : Nat) (t : ByteArray) (hi : i < l.length) (hl : l.length ≤ 1000000) : Turn2 Try.prog 122 9 1 (l.map eS) (.int .i64 (i : Int)) 9 1 [[.v (.string t)]] ((l.take i ++ t :: l.drop i).map eS) := by
  refine ⟨⟨_, Try.func122, rfl, rfl⟩, fun μ w base v u hb hv hu hne => ?_⟩
  have hu : RowOk μ base w u 9 1 ([t].map eS) := hu
  rw [rowOk_str] at hv hu
  obtain ⟨_, ⟨_, h0⟩ | ⟨ub, uc, ucur, rfl, ub1, ub2, ub3, ub4, ub5, ub6⟩⟩ := hu
  · simp at h0
  obtain ⟨_, ⟨_, h0⟩ | ⟨b, c, cur, rfl, vb1, vb2, vb3, vb4, vb5, vb6⟩⟩ := hv
  · omega
  simp only [Nat.mul_one] at vb5 vb6 ub5 ub6
  have hbu : ub ≠ b := fun h => hne b rfl (by rw [h]; rfl)
  have hvs : ∀ (j : Nat) (x : Value), (vS [t])[j]? = some x → w.cell? ⟨ub, 0 + j, none⟩ = some x := fun j x hj => by
    simp only [World.cell?, ub2, Nat.zero_add, Option.isSome_none, Bool.false_eq_true, if_false]
    rw [← ub6, List.getElem?_take] at hj
    split at hj
    · simpa using hj
    · cases hj
  have hcs : ∀ (j : Nat) (x : Value), (vS l)[j]? = some x → w.cell? ⟨b, 0 + j, none⟩ = some x := fun j x hj => by
    simp only [World.cell?, vb2, Nat.zero_add, Option.isSome_none, Bool.false_eq_true, if_false]
    rw [← vb6, List.getElem?_take] at hj
    split at hj
    · simpa using hj
    · cases hj
  have hA : (vS l).take i = vS (l.take i) := by simp [vS, List.map_take]
  have hB : (vS l).drop i = vS (l.drop i) := by simp [vS, List.map_drop]
  have hlen : (l.take i).length = i := by rw [List.length_take]; omega
  have hlen2 : (l.drop i).length = l.length - i := by simp
  have hres : vS (l.take i ++ t :: l.drop i) = vS (l.take i) ++ Value.string t :: vS (l.drop i) := by simp [vS]
  have hrl : (l.take i ++ t :: l.drop i).length = l.length + 1 := by simp; omega
  by_cases hroom : l.length + 1 ≤ c
  · have hsp : ∀ j, j < l.length + 1 → (w.cell? ⟨b, 0 + j, none⟩).isSome = true := fun j hj => by
      simp only [World.cell?, vb2, Nat.zero_add, Option.isSome_none, Bool.false_eq_true, if_false]
      simp; omega
    have h := Any2.slices_Insert_string_shift laysIns b 0 l.length c i ub 0 1 uc (vS l) (vS [t]) w hi (by decide) hroom (by simp only [maxLen] at vb4; omega) hbu (vS_len l) rfl hcs hsp (fun j _ => by simp [World.frozen?, vb2]) hvs (vS_one l) (vS_one [t]) 9 9 uc c (by simp [World.shape?, ub2, ub5]) (by simp [World.shape?, vb2, vb5]) (by omega) (by simp [World.frozen?, ub2]) (by simp [World.frozen?, ub2])
    refine Calls.mono h ?_
    rintro en w' ⟨rfl, rfl⟩
    obtain ⟨c1, k1, k2⟩ := setCells_heap ((vS l).drop i) (0 + (i + 1)) w.drew cur (t := 9) (fz := (0, 0)) vb2 (by simp [vS]; omega)
    have k2l : c1.size = c := by rw [← Array.length_toList, k2, updV_len (by simp [vS]; omega)]; simp [vb5]
    obtain ⟨c2, k3, k4⟩ := setCells_heap (vS [t]) (0 + i) _ c1 k1 (by simp [vS]; omega)
    have k4l : c2.size = c := by rw [← Array.length_toList, k4, updV_len (by simp [vS]; omega)]; simp [k2l]
    obtain ⟨o1, o2, o3, o4⟩ := setCells_rest w.drew b (0 + (i + 1)) ((vS l).drop i)
    obtain ⟨p1, p2, p3, p4⟩ := setCells_rest (w.drew.setCells b (0 + (i + 1)) ((vS l).drop i)) b (0 + i) (vS [t])
    refine ⟨_, rfl, ?_, ⟨_, _, _, rfl⟩, ⟨p1.trans o1, p2.trans o2, p3.trans o3, by rw [p4, o4]; exact Nat.le_refl _, fun x hx hxb => ?_, fun x hx => .inl hx⟩⟩
    · rw [rowOk_str]
      refine ⟨by rw [vS_len, Nat.mul_one], .inr ⟨b, c, c2, by rw [hrl], vb1, k3, by rw [hrl]; exact hroom, vb4, by rw [Nat.mul_one]; exact k4l, ?_⟩⟩
      obtain ⟨r0, R, hR⟩ : ∃ r0 R, cur.toList.drop l.length = r0 :: R := by
        cases hd : cur.toList.drop l.length with
        | nil => have := congrArg List.length hd; simp at this; omega
        | cons a b => exact ⟨a, b, rfl⟩
      have hcur : cur.toList = vS (l.take i) ++ (vS (l.drop i) ++ r0 :: R) := by
        rw [← List.append_assoc, ← hA, ← hB, List.take_append_drop, ← hR, ← vb6, List.take_append_drop]
      have := ins_list (t := Value.string t) hcur
      rw [vS_len, vS_len, hlen, hlen2] at this
      rw [k4, k2, hrl, Nat.mul_one, hres, hB, Nat.zero_add, Nat.zero_add, show l.length + 1 = i + (l.length - i) + 1 by omega]
      exact this
    · rw [World.heap_setCells_other _ _ _ _ (by rw [o4]; exact hx) (fun e => hxb (by rw [e]; rfl))]
      exact World.heap_setCells_other w.drew b _ _ hx (fun e => hxb (by rw [e]; rfl))
  · have h := Any2.slices_Insert_string_grow laysIns b 0 l.length c i ub 0 1 uc (vS l) (vS [t]) w hi (by decide) vb3 (by omega) (by omega) (vS_len l) rfl hcs hvs (vS_one l) (vS_one [t])
    refine Calls.mono h ?_
    generalize hZ1 : Builtin.zeroCells (Value.string ⟨#[]⟩).cells (l.length + 1 - i) = Z1
    generalize hZ2 : Builtin.zeroCells (Value.string ⟨#[]⟩).cells (grownCap w (l.length + 1) c (rIns.t 9) - (l.length + 1)) = Z2
    have hge := grownCap_ge w (l.length + 1) c (rIns.t 9)
    have hle := grownCap_le_maxLen w (l.length + 1) c (rIns.t 9) (by simp only [maxLen]; omega)
    have z1 : Z1.size = l.length + 1 - i := by rw [← hZ1, size_zeroCells]; simp [Value.cells]
    have z2 : Z2.size = grownCap w (l.length + 1) c (rIns.t 9) - (l.length + 1) := by rw [← hZ2, size_zeroCells]; simp [Value.cells]
    generalize grownCap w (l.length + 1) c (rIns.t 9) = C2 at hge hle z2 ⊢
    rintro en w' ⟨rfl, rfl⟩
    have hc0 : (((vS l).take i).toArray ++ Z1 ++ Z2).size = C2 := by simp [z1, z2, vS]; omega
    have hcl : (((vS l).take i).toArray ++ Z1 ++ Z2).toList.length = C2 := by rw [Array.length_toList]; exact hc0
    have hN := heap_alloc_new w (.cells (((vS l).take i).toArray ++ Z1 ++ Z2) 9)
    obtain ⟨c1, k1, k2⟩ := setCells_heap (vS [t]) i (w.alloc (.cells (((vS l).take i).toArray ++ Z1 ++ Z2) 9)).drew _ (t := 9) (fz := (0, 0)) hN (by rw [hc0]; simp [vS]; omega)
    have k2l : c1.size = C2 := by rw [← Array.length_toList, k2, updV_len (by rw [hcl]; simp [vS]; omega), hcl]
    obtain ⟨c2, k3, k4⟩ := setCells_heap ((vS l).drop i) (i + 1) ((w.alloc (.cells (((vS l).take i).toArray ++ Z1 ++ Z2) 9)).drew.setCells w.heap.size i (vS [t])).drew c1 k1 (by rw [k2l]; simp [vS]; omega)
    have k4l : c2.size = C2 := by rw [← Array.length_toList, k4, updV_len (by rw [show c1.toList.length = C2 by rw [Array.length_toList]; exact k2l]; simp [vS]; omega), Array.length_toList, k2l]
    obtain ⟨o1, o2, o3, o4⟩ := setCells_rest (w.alloc (.cells (((vS l).take i).toArray ++ Z1 ++ Z2) 9)).drew w.heap.size i (vS [t])
    obtain ⟨p1, p2, p3, p4⟩ := setCells_rest ((w.alloc (.cells (((vS l).take i).toArray ++ Z1 ++ Z2) 9)).drew.setCells w.heap.size i (vS [t])).drew w.heap.size (i + 1) ((vS l).drop i)
    have hBel : Below w.heap.size w (w.alloc (.cells (((vS l).take i).toArray ++ Z1 ++ Z2) 9)) := (Below.refl _ _).alloc (Nat.le_refl _) _
    refine ⟨_, rfl, ?_, ⟨_, _, _, rfl⟩, ⟨p1.trans (o1.trans hBel.os), p2.trans (o2.trans hBel.tape), p3.trans (o3.trans hBel.output), ?_, fun x hx hxb => ?_, fun x hx => .inr ?_⟩⟩
    · rw [rowOk_str]
      refine ⟨by rw [vS_len, Nat.mul_one], .inr ⟨w.heap.size, C2, c2, by rw [hrl], hb, k3, by rw [hrl]; exact hge, hle, by rw [Nat.mul_one]; exact k4l, ?_⟩⟩
      rw [k4, k2, hrl, Nat.mul_one, hres, hB]
      have hZ : (Z1 ++ Z2).toList = Z1.toList.take 1 ++ (Z1.toList.drop 1 ++ Z2.toList) := by
        rw [Array.toList_append, ← List.append_assoc, List.take_append_drop]
      have e1 : (((vS l).take i).toArray ++ Z1 ++ Z2).toList = vS (l.take i) ++ (Z1.toList.take 1 ++ (Z1.toList.drop 1 ++ Z2.toList)) := by
        rw [Array.append_assoc, Array.toList_append, hZ, hA]
      have hz11 : (Z1.toList.take 1).length = (vS [t]).length := by simp [vS, z1]; omega
      have hi2 : i = (vS (l.take i)).length := by rw [vS_len, hlen]
      have e2 : updV (((vS l).take i).toArray ++ Z1 ++ Z2).toList i (vS [t]) = (vS (l.take i) ++ vS [t]) ++ (Z1.toList.drop 1 ++ Z2.toList) := by
        rw [e1]
        conv => lhs; arg 2; rw [hi2]
        rw [updV_at _ _ _ _ hz11, List.append_assoc]
      rw [e2]
      have e3 : updV ((vS (l.take i) ++ vS [t]) ++ (Z1.toList.drop 1 ++ Z2.toList)) (i + 1) (vS (l.drop i)) = (vS (l.take i) ++ vS [t]) ++ (vS (l.drop i) ++ Z2.toList) := by
        have := updV_at (vS (l.take i) ++ vS [t]) (Z1.toList.drop 1) Z2.toList (vS (l.drop i)) (by rw [vS_len, hlen2]; simp [z1]; omega)
        rwa [show (vS (l.take i) ++ vS [t]).length = i + 1 by rw [List.length_append, vS_len, hlen]; rfl] at this
      rw [e3, ← List.append_assoc, List.take_left' (by simp [vS]; omega)]
      simp [vS]
    · exact Nat.le_trans (Nat.le_trans hBel.size (Nat.le_of_eq o4.symm)) (Nat.le_of_eq p4.symm)
    · have q1 : x < ((w.alloc (.cells (((vS l).take i).toArray ++ Z1 ++ Z2) 9)).drew.setCells w.heap.size i (vS [t])).drew.heap.size := Nat.lt_of_lt_of_le (Nat.lt_of_lt_of_le hx hBel.size) (Nat.le_of_eq o4.symm)
      have q2 := World.heap_setCells_other ((w.alloc (.cells (((vS l).take i).toArray ++ Z1 ++ Z2) 9)).drew.setCells w.heap.size i (vS [t])).drew w.heap.size (i + 1) ((vS l).drop i) q1 (by omega)
      have q3 := World.heap_setCells_other (w.alloc (.cells (((vS l).take i).toArray ++ Z1 ++ Z2) 9)).drew w.heap.size i (vS [t]) (Nat.lt_of_lt_of_le hx hBel.size) (by omega)
      exact q2.trans (q3.trans (hBel.block x hx))
    · simp only [ob, Value.ownBlock, Option.some.injEq] at hx
      omega
end Go.Proofs.Ytenohgpackcjbaa
