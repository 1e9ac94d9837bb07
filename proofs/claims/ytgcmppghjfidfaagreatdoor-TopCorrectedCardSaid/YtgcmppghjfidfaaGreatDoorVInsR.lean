/-
 Chapter 8: insertions as turns of own rows.
-/
import Derived.Test.YtgcmppghjfidfaaGreatDoorVInsP
import Derived.Test.YtgcmppghjfidfaaGreatDoorVGC
namespace Go.Proofs.YtgcmppghjfidfaaGreatDoor
open Go Go.Vx Go.Shelf Go.RowKit Go.Lib
set_option linter.unusedSimpArgs false
set_option linter.unusedVariables false
theorem ins_listN {L vs : List Value} {p n k : Nat} (hp : p ≤ n) (hn : n + k ≤ L.length) (hv : vs.length = k) : (updV (updV L (p + k) ((L.take n).drop p)) p vs).take (n + k) = L.take p ++ (vs ++ (L.take n).drop p) := by
 have hd : ((L.take n).drop p).length = n - p := by rw [List.length_drop, List.length_take]; omega
 generalize (L.take n).drop p = B at hd ⊢
 have e1 : (updV L (p + k) B).take p = L.take p := by
  rw [updV, List.append_assoc, List.take_append_of_le_length (by rw [List.length_take]; omega), List.take_take, Nat.min_eq_left (by omega)]
 have e2 : (updV L (p + k) B).drop (p + k) = B ++ L.drop (p + k + B.length) := by
  rw [updV, List.append_assoc, List.drop_left' (by rw [List.length_take]; omega)]
 rw [updV, e1, hv, e2, List.append_assoc, ← List.append_assoc vs, ← List.append_assoc, List.take_left' (by simp; omega)]
/-- what an insertion leaves. -/
def InsPost (e s b n : Nat) (L : List Value) (w : World) (en : Ending) (w' : World) : Prop :=
 ∃ (bb C : Nat) (cur : Array Value), en = .returned (.slice (some ⟨bb, 0, none⟩) (n + 1) C) ∧ w'.os = w.os ∧ w'.tape = w.tape ∧ w'.output = w.output ∧ w.heap.size ≤ w'.heap.size ∧
  w'.heap[bb]? = some (.cells cur e (0, 0)) ∧ cur.size = C * s ∧ n + 1 ≤ C ∧ C ≤ maxLen ∧ cur.toList.take ((n + 1) * s) = L ∧ (bb = b ∨ w.heap.size ≤ bb) ∧ ∀ x, x < w.heap.size → x ≠ b → w'.heap[x]? = w.heap[x]?
/-- in place. -/
theorem insPost_room {e s b n c i : Nat} {cur : Array Value} {w w1 : World} {cs vs : List Value} (hh : w1.heap = w.heap) (h1 : w1.os = w.os) (h2 : w1.tape = w.tape) (h3 : w1.output = w.output)
  (hb : w.heap[b]? = some (.cells cur e (0, 0))) (hc : cur.size = c * s) (hcs : cur.toList.take (n * s) = cs) (hi : i ≤ n) (hn : n + 1 ≤ c) (hm : c ≤ maxLen) (hv : vs.length = s) :
  InsPost e s b n (cs.take (i * s) ++ (vs ++ cs.drop (i * s))) w (.returned (.slice (some ⟨b, 0, none⟩) (n + 1) c)) ((w1.setCells b ((i + 1) * s) (cs.drop (i * s))).setCells b (i * s) vs) := by
 have hms : n * s ≤ c * s := Nat.mul_le_mul_right _ (by omega)
 have hn1 : (n + 1) * s ≤ c * s := Nat.mul_le_mul_right _ hn
 have his : i * s ≤ n * s := Nat.mul_le_mul_right _ hi
 have hs1 : (n + 1) * s = n * s + s := by rw [Nat.add_mul, Nat.one_mul]
 have hs2 : (i + 1) * s = i * s + s := by rw [Nat.add_mul, Nat.one_mul]
 have hcl : cs.length = n * s := by rw [← hcs, List.length_take]; simp; omega
 have hdl : (cs.drop (i * s)).length = n * s - i * s := by rw [List.length_drop, hcl]
 obtain ⟨c1, k1, k2⟩ := setCells_heap (cs.drop (i * s)) ((i + 1) * s) w1 cur (t := e) (fz := (0, 0)) (by rw [hh]; exact hb) (by omega)
 have k2l : c1.size = cur.size := by rw [← Array.length_toList, k2, updV_len (by simp; omega)]; simp
 obtain ⟨c2, k3, k4⟩ := setCells_heap vs (i * s) _ c1 k1 (by omega)
 have k4l : c2.size = cur.size := by rw [← Array.length_toList, k4, updV_len (by simp [k2l]; omega)]; simp [k2l]
 obtain ⟨o1, o2, o3, o4⟩ := setCells_rest w1 b ((i + 1) * s) (cs.drop (i * s))
 obtain ⟨p1, p2, p3, p4⟩ := setCells_rest (w1.setCells b ((i + 1) * s) (cs.drop (i * s))) b (i * s) vs
 refine ⟨b, c, c2, rfl, p1.trans (o1.trans h1), p2.trans (o2.trans h2), p3.trans (o3.trans h3), by rw [p4, o4, hh]; exact Nat.le_refl _, k3, by rw [k4l, hc], hn, hm, ?_, .inl rfl, fun x hx hxb => ?_⟩
 ·have := ins_listN (L := cur.toList) (vs := vs) (p := i * s) (n := n * s) (k := s) his (by simp; omega) hv
  rw [hcs] at this
  rw [k4, k2, hs1, hs2, this, ← hcs, List.take_take, Nat.min_eq_left his]
 ·rw [World.heap_setCells_other _ _ _ _ (by rw [o4, hh]; exact hx) hxb, World.heap_setCells_other w1 b _ _ (by rw [hh]; exact hx) hxb, hh]
/-- a new row. -/
theorem insPost_new {e s b n C : Nat} {row : Array Value} {w w' : World} {L : List Value} (h1 : w'.os = w.os) (h2 : w'.tape = w.tape) (h3 : w'.output = w.output) (hsz : w.heap.size ≤ w'.heap.size) (hb : w'.heap[w.heap.size]? = some (.cells row e (0, 0))) (hold : ∀ x, x < w.heap.size → w'.heap[x]? = w.heap[x]?)
  (hr : row.size = C * s) (hn : n + 1 ≤ C) (hm : C ≤ maxLen) (hL : row.toList.take ((n + 1) * s) = L) : InsPost e s b n L w (.returned (.slice (some ⟨w.heap.size, 0, none⟩) (n + 1) C)) w' :=
 ⟨_, C, row, rfl, h1, h2, h3, hsz, hb, hr, hn, hm, hL, .inr (Nat.le_refl _), fun x hx _ => hold x hx⟩
/-- what a raw contract of an insertion gives a row. -/
theorem insD {f : FuncId} {e s : Nat} (hs : 0 < s) (hent : Ent Tryz.prog f) (els : List (List D)) (d : List D) (i : Nat) (hi : i ≤ els.length) (h0 : 0 < els.length) (hm : els.length ≤ 1000000)
  (raw : ∀ (b c ub uc : Nat) (cur ucur : Array Value) (cs vs : List Value) (w : World), w.heap[b]? = some (.cells cur e (0, 0)) → cur.size = c * s → cur.toList.take (els.length * s) = cs → els.length ≤ c → c ≤ maxLen → (∀ u ∈ cs, u.oneCell' = true) →
   w.heap[ub]? = some (.cells ucur e (0, 0)) → ucur.size = uc * s → ucur.toList.take (1 * s) = vs → 1 ≤ uc → (∀ u ∈ vs, u.oneCell' = true) → ub ≠ b →
   Calls Tryz.prog f #[.slice (some ⟨b, 0, none⟩) els.length c, .int .i64 i, .slice (some ⟨ub, 0, none⟩) 1 uc] w (InsPost e s b els.length (cs.take (i * s) ++ (vs ++ cs.drop (i * s))) w)) :
  Turn2 Tryz.prog f e s els (.int .i64 i) e s [d] (els.take i ++ d :: els.drop i) := by
 refine ⟨hent, fun μ w base v u hb hv hu hne => ?_⟩
 obtain ⟨_, vss, hw, hlen, hrd⟩ := hv.tab hs
 obtain ⟨_, uss, huw, hulen, hurd⟩ := hu.tab hs
 have hll := hrd.len
 have hul := hurd.len
 match uss, hul with
 | [x], _ =>
 obtain ⟨_, ⟨_, h0⟩ | ⟨ub, uc, ucur, rfl, ub1, ub2, ub3, ub4, ub5, ub6⟩⟩ := huw
 ·simp at h0
 obtain ⟨_, ⟨_, h0⟩ | ⟨b, c, cur, rfl, vb1, vb2, vb3, vb4, vb5, vb6⟩⟩ := hw
 ·omega
 have hbu : ub ≠ b := fun h => hne b rfl (by rw [h]; rfl)
 have hrd1 : RdL μ d x := by simp only [RdLL] at hurd; exact hurd.1
 have hx : x.length = s := hulen x (by simp)
 have h1c : ∀ u ∈ vss.flatten, u.oneCell' = true := fun u hu => by
  obtain ⟨e, he, hu⟩ := List.mem_flatten.1 hu
  exact hrd.one e he u hu
 have h1v : ∀ u ∈ x, u.oneCell' = true := fun u hu => hurd.one x (by simp) u hu
 rw [hll] at vb3 vb6 ⊢
 refine Calls.mono (raw b c ub uc cur ucur vss.flatten x w vb2 vb5 vb6 vb3 vb4 h1c ub2 ub5 (by simpa using ub6) (by simpa using ub3) h1v hbu) ?_
 rintro en w' ⟨bb, C, cur', rfl, q1, q2, q3, q4, q5, q6, q7, q8, q9, q10, q11⟩
 have hl' : (vss.take i ++ x :: vss.drop i).length = els.length + 1 := by simp; omega
 refine ⟨_, rfl, .inl ⟨hs, vss.take i ++ x :: vss.drop i, ⟨flat_len fun y hy => ?_, .inr ⟨bb, C, cur', by rw [hl'], ?_, q5, by rw [hl']; exact q7, q8, q6, ?_⟩⟩, fun y hy => ?_, (hrd.take i).append ?_⟩, ⟨_, _, _, rfl⟩, ⟨q1, q2, q3, q4, fun y hy hyb => q11 y hy fun h => hyb (by rw [h]; rfl), fun y hy => ?_⟩⟩
 ·rcases List.mem_append.1 hy with h | h
  ·exact hlen y (List.mem_of_mem_take h)
  ·rcases List.mem_cons.1 h with rfl | h
   ·exact hx
   ·exact hlen y (List.mem_of_mem_drop h)
 ·rcases q10 with rfl | h
  ·exact vb1
  ·omega
 ·rw [hl', q9, flat_take i hlen, flat_drop i hlen, List.flatten_append, List.flatten_cons]
 ·rcases List.mem_append.1 hy with h | h
  ·exact hlen y (List.mem_of_mem_take h)
  ·rcases List.mem_cons.1 h with rfl | h
   ·exact hx
   ·exact hlen y (List.mem_of_mem_drop h)
 ·simp only [RdLL]
  exact ⟨hrd1, hrd.drop i⟩
 ·simp only [ob, Value.ownBlock, Option.some.injEq] at hy ⊢
  omega
theorem cells_of {w : World} {b k : Nat} {cur : Array Value} {e : TypeId} {cs : List Value} (hb : w.heap[b]? = some (.cells cur e (0, 0))) (hc : cur.toList.take k = cs) : ∀ j v, cs[j]? = some v → w.cell? ⟨b, j, none⟩ = some v := fun j v hj => by
 simp only [World.cell?, hb, Nat.zero_add, Option.isSome_none, Bool.false_eq_true, if_false]
 rw [← hc, List.getElem?_take] at hj
 split at hj
 ·simpa using hj
 ·cases hj
theorem some_of {w : World} {b k : Nat} {cur : Array Value} {e : TypeId} (hb : w.heap[b]? = some (.cells cur e (0, 0))) (hc : k ≤ cur.size) : ∀ j, j < k → (w.cell? ⟨b, j, none⟩).isSome = true := fun j hj => by
 simp only [World.cell?, hb, Nat.zero_add, Option.isSome_none, Bool.false_eq_true, if_false]
 simp; omega
theorem fz_of {w : World} {b : Nat} {cur : Array Value} {e : TypeId} (hb : w.heap[b]? = some (.cells cur e (0, 0))) (j : Nat) : w.frozen? ⟨b, j, none⟩ = false := by
 simp [World.frozen?, hb]
theorem zP_size (n : Nat) : (Builtin.zeroCells zP.cells n).size = n * 2 := by simp [Builtin.zeroCells, zP, Value.cells]
theorem insertP_s (els : List (List D)) (d : List D) (i : Nat) (hi : i ≤ els.length) (h0 : 0 < els.length) (hm : els.length ≤ 1000000) : Turn2 Tryz.prog 123 81 2 els (.int .i64 i) 81 2 [d] (els.take i ++ d :: els.drop i) :=
 insD (by decide) ⟨_, Tryz.func123, rfl, rfl⟩ els d i hi h0 hm fun b c ub uc cur ucur cs vs w v1 v2 v3 v4 v5 v6 u1 u2 u3 u4 u5 hne => by
  have hcl : cs.length = els.length * 2 := by rw [← v3, List.length_take]; simp; omega
  have hvl : vs.length = 1 * 2 := by rw [← u3, List.length_take]; simp; omega
  have hcs := cells_of v1 v3
  have hvs := cells_of u1 u3
  have hvs0 : ∀ j v, vs[j]? = some v → w.cell? ⟨ub, 0 + j, none⟩ = some v := fun j v h => by rw [Nat.zero_add]; exact hvs j v h
  have hc63 : c ≤ 9223372036854775807 := by simp only [maxLen] at v5; omega
  by_cases hroom : els.length + 1 ≤ c
  ·have hsp := some_of v1 (k := (els.length + 1) * 2) (by omega)
   by_cases he : i = els.length
   ·subst he
    refine Calls.mono (insP_end_room b els.length c ub uc vs w hroom hc63 hvl (fun j hj => hsp _ (by omega)) (fun j _ => fz_of v1 _) hvs0 u5) ?_
    rintro en w' ⟨rfl, rfl⟩
    have := insPost_room (e := 81) (s := 2) (w1 := w) rfl rfl rfl rfl v1 v2 v3 (Nat.le_refl _) hroom v5 (by simpa using hvl)
    rw [show cs.drop (els.length * 2) = [] from List.drop_eq_nil_of_le (by omega)] at this ⊢
    rw [Nat.zero_add]
    exact this
   ·refine Calls.mono (insP_shift b els.length c i ub uc cs vs w (by omega) hroom hc63 hne hcl hvl hcs hsp (fun j _ => fz_of v1 _) hvs0 v6 u5 81 81 (uc * 2) (c * 2) (by simp [World.shape?, u1, u2]) (by simp [World.shape?, v1, v2]) (by omega) (fz_of u1 _) (fz_of u1 _)) ?_
    rintro en w' ⟨rfl, rfl⟩
    exact insPost_room (e := 81) (s := 2) (w1 := w.drew) rfl rfl rfl rfl v1 v2 v3 hi hroom v5 (by simpa using hvl)
  ·have hge := grownCap_ge w (els.length + 1) c 81
   have hle := grownCap_le_maxLen w (els.length + 1) c 81 (by simp only [maxLen]; omega)
   by_cases he : i = els.length
   ·subst he
    refine Calls.mono (insP_end_grow b els.length c ub uc cs vs w v4 (by omega) (by omega) hcl hvl (fun j v h => by rw [Nat.zero_add]; exact hcs j v h) hvs0 u5) ?_
    have hz := zP_size (grownCap w (els.length + 1) c 81 - (els.length + 1))
    generalize Builtin.zeroCells zP.cells (grownCap w (els.length + 1) c 81 - (els.length + 1)) = Z at hz ⊢
    generalize grownCap w (els.length + 1) c 81 = C at hge hle hz ⊢
    rintro en w' ⟨rfl, rfl⟩
    have hBel : Below w.heap.size w (w.alloc (.cells ((cs ++ vs).toArray ++ Z) 81)) := (Below.refl _ _).alloc (Nat.le_refl _) _
    refine insPost_new hBel.os hBel.tape hBel.output hBel.size (heap_alloc_new w.drew _) (fun x hx => hBel.block x hx) (by simp [hz, hcl, hvl]; omega) hge hle ?_
    rw [show cs.drop (els.length * 2) = [] from List.drop_eq_nil_of_le (by omega), Array.toList_append, List.take_left' (by simp [hcl, hvl]; omega), List.take_of_length_le (by omega), List.append_nil]
   ·refine Calls.mono (insP_grow b els.length c i ub uc cs vs w (by omega) v4 (by omega) (by omega) hcl hvl hcs hvs0 v6 u5) ?_
    have hz := zP_size (grownCap w (els.length + 1) c 81 - (els.length + 1))
    have hz1 := zP_size (els.length + 1 - i)
    generalize Builtin.zeroCells zP.cells (grownCap w (els.length + 1) c 81 - (els.length + 1)) = Z at hz ⊢
    generalize Builtin.zeroCells zP.cells (els.length + 1 - i) = Z1 at hz1 ⊢
    generalize grownCap w (els.length + 1) c 81 = C at hge hle hz ⊢
    rintro en w' ⟨rfl, rfl⟩
    obtain ⟨row, hrow⟩ : ∃ row, row = (cs.take (i * 2)).toArray ++ Z1 ++ Z := ⟨_, rfl⟩
    rw [← hrow]
    have hrs : row.size = C * 2 := by rw [hrow]; simp [hz, hz1, hcl]; omega
    have hBel : Below w.heap.size w (w.alloc (.cells row 81)) := (Below.refl _ _).alloc (Nat.le_refl _) _
    have hN := heap_alloc_new w (.cells row 81)
    have hdl : (cs.drop (i * 2)).length = (els.length - i) * 2 := by rw [List.length_drop, hcl]; omega
    obtain ⟨c1, k1, k2⟩ := setCells_heap vs (i * 2) (w.alloc (.cells row 81)).drew row (t := 81) (fz := (0, 0)) hN (by omega)
    have k2l : c1.size = row.size := by rw [← Array.length_toList, k2, updV_len (by simp; omega)]; simp
    obtain ⟨c2, k3, k4⟩ := setCells_heap (cs.drop (i * 2)) ((i + 1) * 2) ((w.alloc (.cells row 81)).drew.setCells w.heap.size (i * 2) vs).drew c1 k1 (by omega)
    have k4l : c2.size = row.size := by rw [← Array.length_toList, k4, updV_len (by simp [k2l]; omega)]; simp [k2l]
    obtain ⟨o1, o2, o3, o4⟩ := setCells_rest (w.alloc (.cells row 81)).drew w.heap.size (i * 2) vs
    obtain ⟨p1, p2, p3, p4⟩ := setCells_rest ((w.alloc (.cells row 81)).drew.setCells w.heap.size (i * 2) vs).drew w.heap.size ((i + 1) * 2) (cs.drop (i * 2))
    have hx1 : ∀ x, x < w.heap.size → x < ((w.alloc (.cells row 81)).drew.setCells w.heap.size (i * 2) vs).drew.heap.size := fun x hx => Nat.lt_of_lt_of_le (Nat.lt_of_lt_of_le hx hBel.size) (Nat.le_of_eq o4.symm)
    refine insPost_new (p1.trans (o1.trans hBel.os)) (p2.trans (o2.trans hBel.tape)) (p3.trans (o3.trans hBel.output)) (Nat.le_trans (Nat.le_trans hBel.size (Nat.le_of_eq o4.symm)) (Nat.le_of_eq p4.symm)) k3 (fun x hx => ?_) (by rw [k4l, hrs]) hge hle ?_
    ·have q2 := World.heap_setCells_other ((w.alloc (.cells row 81)).drew.setCells w.heap.size (i * 2) vs).drew w.heap.size ((i + 1) * 2) (cs.drop (i * 2)) (hx1 x hx) (by omega)
     have q3 := World.heap_setCells_other (w.alloc (.cells row 81)).drew w.heap.size (i * 2) vs (Nat.lt_of_lt_of_le hx hBel.size) (by omega)
     exact q2.trans (q3.trans (hBel.block x hx))
    ·have ht : row.toList.take (i * 2) = cs.take (i * 2) := by
      rw [hrow, Array.append_assoc, Array.toList_append, List.take_left' (by rw [List.length_take]; omega)]
     have hr : row.toList.length = C * 2 := by rw [Array.length_toList, hrs]
     generalize row.toList = R at ht hr k2 k4
     rw [k4, k2]
     have e1 : updV (updV R (i * 2) vs) ((i + 1) * 2) (cs.drop (i * 2)) = cs.take (i * 2) ++ (vs ++ (cs.drop (i * 2) ++ R.drop ((i + 1) * 2 + (cs.drop (i * 2)).length))) := by
      have a1 : (updV R (i * 2) vs).take ((i + 1) * 2) = cs.take (i * 2) ++ vs := by
       rw [updV, ht, List.take_left' (by simp; omega)]
      have a2 : (updV R (i * 2) vs).drop ((i + 1) * 2 + (cs.drop (i * 2)).length) = R.drop ((i + 1) * 2 + (cs.drop (i * 2)).length) := by
       rw [updV, List.drop_append, List.drop_eq_nil_of_le (by simp; omega), List.nil_append, List.drop_drop]
       congr 1
       simp; omega
      rw [updV, a1, a2, List.append_assoc, List.append_assoc]
     rw [e1, ← List.append_assoc, ← List.append_assoc, List.take_left' (by simp; omega), List.append_assoc]
/-- a text at the end. -/
theorem insertS_end (els : List (List D)) (d : List D) (h0 : 0 < els.length) (hm : els.length ≤ 1000000) : Turn2 Tryz.prog 122 9 1 els (.int .i64 (els.length : Nat)) 9 1 [d] (els ++ [d]) := by
 have h := insD (f := 122) (e := 9) (s := 1) (by decide) ⟨_, Tryz.func122, rfl, rfl⟩ els d els.length (Nat.le_refl _) h0 hm fun b c ub uc cur ucur cs vs w v1 v2 v3 v4 v5 v6 u1 u2 u3 u4 u5 hne => by
  have hcl : cs.length = els.length := by rw [← v3, List.length_take]; simp; omega
  have hvl : vs.length = 1 := by rw [← u3, List.length_take]; simp; omega
  have hcs := cells_of v1 v3
  have hvs := cells_of u1 u3
  have hvs0 : ∀ j v, vs[j]? = some v → w.cell? ⟨ub, 0 + j, none⟩ = some v := fun j v h => by rw [Nat.zero_add]; exact hvs j v h
  have hc63 : c ≤ 9223372036854775807 := by simp only [maxLen] at v5; omega
  by_cases hroom : els.length + 1 ≤ c
  ·have hsp := some_of v1 (k := els.length + 1) (by omega)
   refine Calls.mono (Any2.slices_Insert_string_end_room laysIns b 0 els.length c ub 0 1 uc vs w (by decide) hroom hc63 hvl (fun j hj => hsp _ (by omega)) (fun j _ => fz_of v1 _) hvs0 u5) ?_
   rintro en w' ⟨rfl, rfl⟩
   have := insPost_room (e := 9) (s := 1) (w1 := w) rfl rfl rfl rfl v1 v2 v3 (Nat.le_refl _) hroom v5 hvl
   rw [show cs.drop (els.length * 1) = [] from List.drop_eq_nil_of_le (by omega)] at this ⊢
   rw [Nat.zero_add]
   have h2 : (w.setCells b ((els.length + 1) * 1) []) = w := rfl
   rw [h2] at this
   simpa only [Nat.mul_one] using this
  ·have hge := grownCap_ge w (els.length + 1) c 9
   have hle := grownCap_le_maxLen w (els.length + 1) c 9 (by simp only [maxLen]; omega)
   refine Calls.mono (Any2.slices_Insert_string_end_grow laysIns (some ⟨b, 0, none⟩) els.length c ub 0 1 uc cs vs w (by decide) v4 (by omega) (by omega) hcl hvl (fun h => by cases h) (fun a ha j v h => by cases ha; rw [Addr.add_lit, Nat.zero_add]; exact hcs j v h) hvs0 u5) ?_
   rw [show rIns.t 9 = 9 from rfl]
   have hz : (Builtin.zeroCells (Value.string ⟨#[]⟩).cells (grownCap w (els.length + 1) c 9 - (els.length + 1))).size = grownCap w (els.length + 1) c 9 - (els.length + 1) := by simp [Builtin.zeroCells, Value.cells]
   generalize Builtin.zeroCells (Value.string ⟨#[]⟩).cells (grownCap w (els.length + 1) c 9 - (els.length + 1)) = Z at hz ⊢
   generalize grownCap w (els.length + 1) c 9 = C at hge hle hz ⊢
   rintro en w' ⟨rfl, rfl⟩
   have hBel : Below w.heap.size w (w.alloc (.cells ((cs ++ vs).toArray ++ Z) 9)) := (Below.refl _ _).alloc (Nat.le_refl _) _
   refine insPost_new hBel.os hBel.tape hBel.output hBel.size (heap_alloc_new w.drew _) (fun x hx => hBel.block x hx) (by simp [hz, hcl, hvl]; omega) hge hle ?_
   rw [show cs.drop (els.length * 1) = [] from List.drop_eq_nil_of_le (by omega), Array.toList_append, List.take_left' (by simp [hcl, hvl]), List.take_of_length_le (by omega), List.append_nil]
 rwa [List.take_length, List.drop_length] at h
end Go.Proofs.YtgcmppghjfidfaaGreatDoor
