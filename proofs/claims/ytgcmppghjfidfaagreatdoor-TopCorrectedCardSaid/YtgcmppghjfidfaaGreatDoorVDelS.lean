/-
 Chapter 8: texts are taken out of a row, by the library's own text.
-/
import Derived.Test.YtgcmppghjfidfaaGreatDoorVDel
import Derived.Test.YtgcmppghjfidfaaGreatDoorVTrn
namespace Go.Proofs.YtgcmppghjfidfaaGreatDoor
open Go Go.Vx Go.Shelf Go.RowKit Go.Lib
set_option linter.unusedSimpArgs false
set_option linter.unusedVariables false
def zS : Value := .string ⟨#[]⟩
theorem zS_cells (n : Nat) : ∃ zs, (Builtin.zeroCells zS.cells n).toList = zs ∧ zs.length = n ∧ ∀ v ∈ zs, v.oneCell' = true := by
 refine ⟨_, rfl, by simp [Builtin.zeroCells, zS, Value.cells], fun v hv => ?_⟩
 simp [Builtin.zeroCells, zS, Value.cells] at hv
 obtain ⟨_, _, rfl⟩ := hv
 simp [Nat.mod_one]; rfl
set_option maxHeartbeats 4000000 in
set_option maxRecDepth 1000000 in
theorem deleteS_raw (b n cap i j : Nat) (cs : List Value) (w : World) (hl : cs.length = n) (hij : i < j) (hj : j ≤ n) (hcap : n ≤ cap) (hm : cap ≤ 9223372036854775807)
  (hcs : ∀ t u, cs[t]? = some u → w.cell? ⟨b, t, none⟩ = some u) (hfz : ∀ t, t < n → w.frozen? ⟨b, t, none⟩ = false) (h1c : ∀ u ∈ cs, u.oneCell' = true) :
  Calls Tryz.prog 121 #[.slice (some ⟨b, 0, none⟩) n cap, .int .i64 i, .int .i64 j] w fun e w' => e = .returned (.slice (some ⟨b, 0, none⟩) (n - (j - i)) cap) ∧
   ∃ zs : List Value, zs.length = (j - i) ∧ w' = (w.drew.setCells b (i) (cs.drop (j))).setCells b ((n - (j - i))) zs := by
 obtain ⟨zs, z1, z2, z3⟩ := zS_cells (j - i)
 obtain ⟨news, hnews⟩ : ∃ news, news = cs.drop (j) := ⟨_, rfl⟩
 have hlen : news.length = (n - j) := by rw [hnews]; simp [hl]
 obtain ⟨A, hA, hsrc⟩ : ∃ A : Addr, (if cap = j then some (⟨b, 0, none⟩ : Addr) else some ⟨b, j, none⟩) = some A ∧ Hid (∀ t u, news[t]? = some u → w.drew.cell? (A.add t) = some u) := by
  by_cases h : cap = j
  ·refine ⟨⟨b, 0, none⟩, by simp [h], fun t u hu => ?_⟩
   have h0 : news.length = 0 := by rw [hlen]; omega
   rw [List.length_eq_zero_iff.1 h0] at hu
   simp at hu
  ·refine ⟨⟨b, j, none⟩, by simp [h], fun t u hu => ?_⟩
   rw [hnews, List.getElem?_drop] at hu
   rw [Addr.add_lit]
   exact hcs (j + t) u hu
 have s2 : Hid (∀ u ∈ news, u.oneCell' = true) := fun u hu => h1c u (by rw [hnews] at hu; exact List.mem_of_mem_drop hu)
 have hin : ∀ t, t < n → (w.cell? ⟨b, t, none⟩).isSome = true := fun t ht => by
  rw [hcs t cs[t] (List.getElem?_eq_getElem (by omega))]; rfl
 have s3 : Hid (∀ t, t < news.length → (w.drew.cell? ⟨b, 0 + i * 1 + t, none⟩).isSome = true ∧ w.drew.frozen? ⟨b, 0 + i * 1 + t, none⟩ = false) := fun t ht => by
  rw [hlen] at ht
  exact ⟨hin _ (by omega), hfz _ (by omega)⟩
 obtain ⟨W1, hW1⟩ : ∃ W1, W1 = w.drew.setCells b (0 + i * 1) news := ⟨_, rfl⟩
 have hW1s : ∀ k, k < n → (W1.cell? ⟨b, k, none⟩).isSome = true := fun k hk => by
  rw [hW1]
  exact isSome_setCells b _ _ _ (fun t ht => by rw [hlen] at ht; exact hin _ (by omega)) _ (hin k hk)
 have hcl : ∀ ty, (Builtin.clear_ #[51] ty #[.slice (some ⟨b, (i + (n - j)), none⟩) (n - (i + (n - j))) (cap - (i + (n - j)))]).run Tryz.prog W1 = .ok (.tuple #[]) (W1.setCells b ((i + (n - j))) zs) :=
  fun ty => run_clear_cells W1 51 9 ty zS Tryz.underlying51 Tryz.zeroValue9 (n - (i + (n - j))) zs (by rw [show n - (i + (n - j)) = j - i by omega]; exact z1) z3 b ((i + (n - j))) _ (by omega) (fun t ht => hW1s _ (by omega)) (fun t ht => by
   rw [hW1, World.frozen?_setCells]; exact hfz _ (by omega))
 have X : Aside (W1 = w.drew.setCells b (0 + i * 1) news) := hW1
 have Z : Aside (news = cs.drop (j)) := hnews
 have hic : i ≤ cap := by omega
 have hjc : j ≤ cap := by omega
 have hne : ¬ ((i : Int) = (j : Int)) := by omega
 have hi0 : ∃ i0, Tryz.prog.info? 9 = some i0 ∧ i0.size = 1 := ⟨_, rfl, rfl⟩
 obtain ⟨i0, hi0, hz1⟩ := hi0
 have hL : Hid (news.length = (n - j)) := hlen
 have hW : Hid (W1 = w.drew.setCells b (0 + i * 1) news) := hW1
 clear hW1 hW1s hnews hlen hcs hfz h1c hin z1
 have mixed : Tryz.prog.follows Departure.mixedOrders = true := rfl
 go_enter Tryz.func121, Tryz.ntmps121
 go_wp2_with fail
 go_region_law_o (refine step_append_room rfl (.tmp 22) (.tmp 25) 51 rfl 9 i0 1 Tryz.underlying51 hi0 hz1 b 0 i cap (by simp [Act.eval, Act.put]) A (n - j) (cap - j) news (by simp [Act.eval, Act.put]) (by rw [Nat.mul_one]; exact hL.out) hsrc.out s2.out (by omega) s3.out ?_; rw [← hW.out])
 go_wp2
 go_ret
 refine ⟨by rw [show n - (j - i) = i + (n - j) by omega]; rfl, zs, z2, ?_⟩
 rw [X.out, ← Z.out, show i + (n - j) = n - (j - i) by omega, Nat.zero_add, Nat.mul_one]
/-! what is left of a row -/
theorem updV_take {L zs : List Value} {k : Nat} (h : k ≤ L.length) : (updV L k zs).take k = L.take k := by
 have : (L.take k).length = k := by rw [List.length_take]; omega
 simp [updV, List.take_append, List.length_append, List.take_take, Nat.min_eq_left h]
theorem del_list {L zs : List Value} {p q n : Nat} (hpq : p ≤ q) (hq : q ≤ n) (hn : n ≤ L.length) : (updV (updV L p ((L.take n).drop q)) (n - (q - p)) zs).take (n - (q - p)) = L.take p ++ (L.take n).drop q := by
 have hd : ((L.take n).drop q).length = n - q := by rw [List.length_drop, List.length_take]; omega
 rw [updV_take (by rw [updV_len (by omega)]; omega), updV, List.append_assoc]
 have e : n - (q - p) = (L.take p).length + ((L.take n).drop q).length := by rw [hd, List.length_take]; omega
 rw [← List.append_assoc, List.take_append_of_le_length (by simp; omega), e, ← List.length_append, List.take_length]
theorem flat_len {s : Nat} : ∀ {l : List (List Value)}, (∀ e ∈ l, e.length = s) → l.flatten.length = l.length * s
 | [], _ => by simp
 | e :: l, h => by
  rw [List.flatten_cons, List.length_append, flat_len fun x hx => h x (List.mem_cons_of_mem _ hx), h e List.mem_cons_self, List.length_cons, Nat.succ_mul, Nat.add_comm]
theorem flat_take {s : Nat} : ∀ (k : Nat) {l : List (List Value)}, (∀ e ∈ l, e.length = s) → l.flatten.take (k * s) = (l.take k).flatten
 | 0, l, _ => by simp
 | k + 1, [], _ => by simp
 | k + 1, e :: l, h => by
  rw [List.flatten_cons, List.take_succ_cons, List.flatten_cons, Nat.succ_mul, Nat.add_comm, ← h e List.mem_cons_self, List.take_length_add_append, h e List.mem_cons_self, flat_take k fun x hx => h x (List.mem_cons_of_mem _ hx)]
theorem flat_drop {s : Nat} : ∀ (k : Nat) {l : List (List Value)}, (∀ e ∈ l, e.length = s) → l.flatten.drop (k * s) = (l.drop k).flatten
 | 0, l, _ => by simp
 | k + 1, [], _ => by simp
 | k + 1, e :: l, h => by
  rw [List.flatten_cons, List.drop_succ_cons, Nat.succ_mul, Nat.add_comm, ← h e List.mem_cons_self, List.drop_length_add_append, h e List.mem_cons_self, flat_drop k fun x hx => h x (List.mem_cons_of_mem _ hx)]
/-- what a raw contract of a deletion gives a row. -/
theorem delD {f : FuncId} {e s : Nat} (hs : 0 < s) (hent : Ent Tryz.prog f) (els : List (List D)) (i j : Nat) (hij : i < j) (hj : j ≤ els.length) (hm : els.length ≤ 1000000)
  (raw : ∀ (b n cap : Nat) (cs : List Value) (w : World), cs.length = n * s → j ≤ n → n ≤ cap → cap ≤ 9223372036854775807 → (∀ t u, cs[t]? = some u → w.cell? ⟨b, t, none⟩ = some u) → (∀ t, t < n * s → w.frozen? ⟨b, t, none⟩ = false) → (∀ u ∈ cs, u.oneCell' = true) →
   Calls Tryz.prog f #[.slice (some ⟨b, 0, none⟩) n cap, .int .i64 i, .int .i64 j] w fun e w' => e = .returned (.slice (some ⟨b, 0, none⟩) (n - (j - i)) cap) ∧
   ∃ zs : List Value, zs.length = (j - i) * s ∧ w' = (w.drew.setCells b (i * s) (cs.drop (j * s))).setCells b ((n - (j - i)) * s) zs) :
  TurnD Tryz.prog f e s els (.int .i64 i) (.int .i64 j) (els.take i ++ els.drop j) := by
 refine ⟨hent, fun μ w base v hb hv => ?_⟩
 obtain ⟨_, vss, hw, hlen, hrd⟩ := hv.tab hs
 have hll := hrd.len
 obtain ⟨_, ⟨_, h0⟩ | ⟨b, c, cur, rfl, vb1, vb2, vb3, vb4, vb5, vb6⟩⟩ := hw
 ·omega
 have hfl : vss.flatten.length = vss.length * s := flat_len hlen
 have hcs : ∀ t u, vss.flatten[t]? = some u → w.cell? ⟨b, t, none⟩ = some u := fun t u ht => by
  simp only [World.cell?, vb2, Nat.zero_add, Option.isSome_none, Bool.false_eq_true, if_false]
  rw [← vb6, List.getElem?_take] at ht
  split at ht
  ·simpa using ht
  ·cases ht
 have hle : vss.length * s ≤ cur.size := by rw [vb5]; exact Nat.mul_le_mul_right _ vb3
 refine Calls.mono (raw b vss.length c vss.flatten w hfl (by omega) vb3 (by simp only [maxLen] at vb4; omega) hcs (fun t ht => by simp [World.frozen?, vb2]) fun u hu => ?_) ?_
 ·obtain ⟨e, he, hu⟩ := List.mem_flatten.1 hu
  exact hrd.one e he u hu
 rintro en w' ⟨rfl, zs, hz, rfl⟩
 have hd : (vss.flatten.drop (j * s)).length = (vss.length - j) * s := by rw [List.length_drop, hfl, Nat.sub_mul]
 have q1 : i * s + (vss.flatten.drop (j * s)).length ≤ cur.size := by
  rw [hd, ← Nat.add_mul]; exact Nat.le_trans (Nat.mul_le_mul_right _ (by omega)) hle
 obtain ⟨c1, k1, k2⟩ := setCells_heap (vss.flatten.drop (j * s)) (i * s) w.drew cur (t := e) (fz := (0, 0)) vb2 q1
 have k2l : c1.size = cur.size := by rw [← Array.length_toList, k2, updV_len (by simpa using q1)]; simp
 have q2 : (vss.length - (j - i)) * s + zs.length ≤ cur.size := by
  rw [hz, ← Nat.add_mul]; exact Nat.le_trans (Nat.mul_le_mul_right _ (by omega)) hle
 obtain ⟨c2, k3, k4⟩ := setCells_heap zs ((vss.length - (j - i)) * s) _ c1 k1 (by omega)
 have k4l : c2.size = cur.size := by rw [← Array.length_toList, k4, updV_len (by simpa [k2l] using q2)]; simp [k2l]
 obtain ⟨o1, o2, o3, o4⟩ := setCells_rest w.drew b (i * s) (vss.flatten.drop (j * s))
 obtain ⟨p1, p2, p3, p4⟩ := setCells_rest (w.drew.setCells b (i * s) (vss.flatten.drop (j * s))) b ((vss.length - (j - i)) * s) zs
 have hl' : (vss.take i ++ vss.drop j).length = vss.length - (j - i) := by simp; omega
 refine ⟨_, rfl, ?_, ⟨_, _, _, rfl⟩, ⟨p1.trans o1, p2.trans o2, p3.trans o3, by rw [p4, o4]; exact Nat.le_refl _, fun x hx hxb => ?_, fun x hx => .inl hx⟩⟩
 ·refine .inl ⟨hs, vss.take i ++ vss.drop j, ?_, fun x hx => ?_, (hrd.take i).append (hrd.drop j)⟩
  ·refine ⟨flat_len fun x hx => ?_, .inr ⟨b, c, c2, by rw [hl'], vb1, k3, by omega, vb4, by rw [k4l, vb5], ?_⟩⟩
   ·rcases List.mem_append.1 hx with h | h
    ·exact hlen x (List.mem_of_mem_take h)
    ·exact hlen x (List.mem_of_mem_drop h)
   ·have := del_list (L := cur.toList) (zs := zs) (p := i * s) (q := j * s) (n := vss.length * s) (Nat.mul_le_mul_right _ (by omega)) (Nat.mul_le_mul_right _ (by omega)) (by simpa using hle)
    rw [hl', k4, k2, List.flatten_append, ← flat_take i hlen, ← flat_drop j hlen, Nat.sub_mul, Nat.sub_mul, ← vb6]
    rw [this, List.take_take, Nat.min_eq_left (Nat.mul_le_mul_right _ (by omega))]
  ·rcases List.mem_append.1 hx with h | h
   ·exact hlen x (List.mem_of_mem_take h)
   ·exact hlen x (List.mem_of_mem_drop h)
 ·rw [World.heap_setCells_other _ _ _ _ (by rw [o4]; exact hx) (fun e => hxb (by rw [e]; rfl))]
  exact World.heap_setCells_other w.drew b _ _ hx (fun e => hxb (by rw [e]; rfl))
theorem deleteS_s (els : List (List D)) (i j : Nat) (hij : i < j) (hj : j ≤ els.length) (hm : els.length ≤ 1000000) : TurnD Tryz.prog 121 9 1 els (.int .i64 i) (.int .i64 j) (els.take i ++ els.drop j) :=
 delD (by decide) ⟨_, Tryz.func121, rfl, rfl⟩ els i j hij hj hm fun b n cap cs w h1 h2 h3 h4 h5 h6 h7 => by
  simpa only [Nat.mul_one] using deleteS_raw b n cap i j cs w (by simpa using h1) hij h2 h3 h4 h5 (by simpa using h6) h7
theorem deleteP_s (els : List (List D)) (i j : Nat) (hij : i < j) (hj : j ≤ els.length) (hm : els.length ≤ 1000000) : TurnD Tryz.prog 125 81 2 els (.int .i64 i) (.int .i64 j) (els.take i ++ els.drop j) :=
 delD (by decide) ⟨_, Tryz.func125, rfl, rfl⟩ els i j hij hj hm fun b n cap cs w h1 h2 h3 h4 h5 h6 h7 => deleteP_raw b n cap i j cs w h1 hij h2 h3 h4 h5 h6 h7
end Go.Proofs.YtgcmppghjfidfaaGreatDoor
