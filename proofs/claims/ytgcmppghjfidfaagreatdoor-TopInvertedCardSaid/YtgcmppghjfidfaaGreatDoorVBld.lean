/-
 A strings.Builder in a box of the function's own: what WriteString and String do to the box and to the row that it holds.
-/
import Derived.Test.YtgcmppghjfidfaaGreatDoorVIns
import Derived.Shelf.Strings.Builder1
namespace Go.Vx
open Go Go.RowKit Go.Shelf Go.Proofs
set_option linter.unusedSimpArgs false
set_option linter.unusedVariables false
section
variable {P : Program} {ρ : Ren}
theorem app_str_at {w : World} (base : Nat) (t u ty e : TypeId) (i : TypeInfo) (ht : P.underlying t = some (.slice e)) (hu : P.underlying u = some .string) (hi : P.info? e = some i) (hz : i.zero = some (.int .u8 0))
  (hsize : i.size = 1) (hby : i.bytes = 1) (v : Value) (n : Nat) (xs : List Value) (hown : w.ownsRow base e 1 v n xs) (s : ByteArray) (hbytes : n + s.size ≤ 140737488355328) (hbase : base ≤ w.heap.size) :
  ∃ v' w', (Builtin.append_ #[t, u] ty #[v, .string s]).run P w = .ok v' w' ∧ w'.ownsRow base e 1 v' (n + s.size) (xs ++ Lib.strCells s) ∧ w.grownBy w' v.ownBlock ∧ (v'.ownBlock = v.ownBlock ∨ v'.ownBlock = some w.heap.size) := by
 obtain ⟨v', w', h1, h2, h3, _⟩ := Lib.run_append_own_string (P := P) w base t u ty e i ht hu hi hz hsize hby v n xs hown s (by simp only [maxLen]; omega) hbytes hbase
 refine ⟨v', w', h1, h2, h3, ?_⟩
 have hxl : xs.length = n := by simpa using hown.1
 rcases hown.2 with ⟨rfl, rfl⟩ | ⟨g, cap, cur, rfl, hbg, hg, hnc, hcm, hcs, htake⟩
 ·by_cases hm : s.size = 0
  ·have hf := Lib.run_firstCells_string (P := P) w 1 s
   rw [hm] at hf
   have h4 : (Builtin.append_ #[t, u] ty #[.slice none 0 0, .string s]).run P w = .ok (.slice none 0 0) w := by
    simp [Builtin.append_, run_underlying ht, run_underlying hu, sizeOf, typeInfo, hi, hsize, Builtin.lenOf, hm, hf]
   rw [h4] at h1; cases h1; exact .inl rfl
  ·have hr := run_append_nil_string (P := P) w t u ty e i (.int .u8 0) ht hu hi hz s (by omega) (by omega) (by rw [hby]; omega)
   rw [hr] at h1; cases h1; exact .inr rfl
 ·by_cases hroom : n + s.size ≤ cap
  ·have hr := Lib.run_append_room_string (P := P) w t u ty e i ht hu hi hsize g n cap cur hg s hroom (by simp only [maxLen] at hcm; omega)
   rw [hr] at h1; cases h1; exact .inl rfl
  ·have holds : ∀ j u, xs[j]? = some u → w.cell? ((⟨g, 0, none⟩ : Addr).add j) = some u := hown.cells (g := g) rfl
   have hr := Lib.run_append_grow_string (P := P) w t u ty e i (.int .u8 0) ht hu hi hz ⟨g, 0, none⟩ n cap xs (by rw [hsize]; simpa using hxl) holds s (by omega) (by omega) (by rw [hby]; exact growslice_fits (by omega) (by omega))
   rw [hr] at h1; cases h1; exact .inr rfl
theorem wp_app_str {ops : Array Oper} {rest : List Oper} {o : Oper} {a : Act} {Q : Exit → Act → World → Prop} {w : World} (hgd : o.guard = none) (sl x : Operand) (t u : TypeId)
  (ho : o.op = .call { callee := .builtin .append, args := #[sl, x], argTypes := #[t, u] })
  (base : Nat) (e : TypeId) (i : TypeInfo) (ht : P.underlying t = some (.slice e)) (hu : P.underlying u = some .string) (hi : P.info? e = some i) (hz : i.zero = some (.int .u8 0))
  (hsize : i.size = 1) (hby : i.bytes = 1) (v : Value) (n : Nat) (xs : List Value) (hs : a.eval sl = v) (hown : w.ownsRow base e 1 v n xs) (s : ByteArray) (hx : a.eval x = .string s)
  (hbytes : n + s.size ≤ 140737488355328) (hbase : base ≤ w.heap.size)
  (h : ∀ v' w', w'.ownsRow base e 1 v' (n + s.size) (xs ++ Lib.strCells s) → w.grownBy w' v.ownBlock → (v'.ownBlock = v.ownBlock ∨ v'.ownBlock = some w.heap.size) → wpList P ops Q rest (a.put o.dst v') w') : wpList P ops Q (o :: rest) a w := by
 refine wpList_plain hgd fun K hK => ?_
 obtain ⟨v', w', hr, h2, h3, h4⟩ := app_str_at (P := P) base t u o.type e i ht hu hi hz hsize hby v n xs hown s hbytes hbase
 unfold Oper.wp execOp
 simp only [ho, resolve, invoke, builtin, Sem.run_bind, Sem.run_pure, Result.andThen_ok, List.map_toArray, List.map_cons, List.map_nil, hs, hx, hr]
 exact hK _ _ (h v' w' h2 h3 h4)

/-- of the world nothing but the builder's box and its row is touched. -/
structure BldW (w w' : World) (b : Nat) (v v' : Value) : Prop where
 os : w'.os = w.os
 tape : w'.tape = w.tape
 output : w'.output = w.output
 size : w.heap.size ≤ w'.heap.size
 keep : ∀ k, k < w.heap.size → k ≠ b → some k ≠ v.ownBlock → w'.heap[k]? = w.heap[k]?
 blk : v'.ownBlock = v.ownBlock ∨ ∃ k, v'.ownBlock = some k ∧ w.heap.size ≤ k

theorem copy_raw (L : Lays.n240 P ρ) (X : Builder.X72 P ρ) (b : Nat) (p v : Value) (w : World) (hp : p = .pointer none ∨ p = .pointer (some ⟨b, 0, none⟩)) (hb : w.heap[b]? = some (.cells #[p, v] (ρ.t 72) (0, 0))) :
  Calls P (ρ.f 240) #[.pointer (some ⟨b, 0, none⟩)] w fun e w' => e = .returned (.tuple #[]) ∧ w'.heap[b]? = some (.cells #[.pointer (some ⟨b, 0, none⟩), v] (ρ.t 72) (0, 0)) ∧ w'.os = w.os ∧ w'.tape = w.tape ∧ w'.output = w.output ∧ w'.heap.size = w.heap.size ∧ ∀ k, k ≠ b → w'.heap[k]? = w.heap[k]? := by
 have c0 : w.cell? ⟨b, 0, none⟩ = some p := by rw [Lib.cell_of_heap hb]; rfl
 rcases hp with rfl | rfl
 ·refine (Any.Builder_copyCheck_fresh L X b w c0 (by simp [World.shape?, hb]) (Lib.frozen_of_heap hb 0)).mono ?_
  rintro e w' ⟨rfl, rfl⟩
  refine ⟨rfl, by simp [World.setCell, Array.getElem?_modify, hb], rfl, rfl, rfl, by simp [World.setCell], fun k hk => ?_⟩
  simp only [World.setCell]
  rw [Array.getElem?_modify, if_neg (fun e => hk e.symm)]
 ·refine (Any.Builder_copyCheck_used L X b w c0).mono ?_
  rintro e w' ⟨rfl, rfl⟩
  exact ⟨rfl, hb, rfl, rfl, rfl, rfl, fun _ _ => rfl⟩

set_option maxHeartbeats 2000000 in
set_option maxRecDepth 100000 in
theorem wstr_raw (L : Lays.n166 P ρ) (X : Builder.Extra P ρ) (B b : Nat) (p v : Value) (n : Nat) (bs : List Value) (s : ByteArray) (w : World) (hp : p = .pointer none ∨ p = .pointer (some ⟨b, 0, none⟩)) (hb : w.heap[b]? = some (.cells #[p, v] (ρ.t 72) (0, 0)))
  (hown0 : w.ownsRow B (ρ.t 5) 1 v n bs) (hne : v.ownBlock ≠ some b) (hlen : n + s.size ≤ 140737488355328) (hBw : B ≤ w.heap.size) :
  Calls P (ρ.f 166) #[.pointer (some ⟨b, 0, none⟩), .string s] w fun e w' => e = .returned (.tuple #[.int .i64 s.size, .nilIface]) ∧ ∃ v', w'.heap[b]? = some (.cells #[.pointer (some ⟨b, 0, none⟩), v'] (ρ.t 72) (0, 0)) ∧
   w'.ownsRow B (ρ.t 5) 1 v' (n + s.size) (bs ++ Lib.strCells s) ∧ v'.ownBlock ≠ some b ∧ (∃ a n c, v' = .slice a n c) ∧ BldW w w' b v v' := by
 obtain ⟨i0, hi, hz0, hz1, hz2⟩ := info_parts X.infoByte
 have mixed := L.mixed
 have t72 := L.t72; have a72 := L.a72; have z72 := L.z72; have v72 := L.v72; have u72 := run_underlying L.t72
 have t70 := L.t70; have a70 := L.a70; have z70 := L.z70; have v70 := L.v70; have u70 := run_underlying L.t70
 have t37 := L.t37; have a37 := L.a37; have z37 := L.z37; have v37 := L.v37; have u37 := run_underlying L.t37
 have t3 := L.t3; have a3 := L.a3; have z3 := L.z3; have v3 := L.v3; have u3 := run_underlying L.t3
 have t9 := L.t9; have a9 := L.a9; have z9 := L.z9; have v9 := L.v9; have u9 := run_underlying L.t9
 have t4 := L.t4; have a4 := L.a4; have z4 := L.z4; have v4 := L.v4; have u4 := run_underlying L.t4
 have t164 := L.t164; have a164 := L.a164; have z164 := L.z164; have v164 := L.v164; have u164 := run_underlying L.t164
 have t5 := X.t5; have a5 := X.a5; have z5 := X.z5; have v5 := X.v5; have u5 := run_underlying X.t5
 have e240 : ∀ args w, (callFunc (ρ.f 240) args).run P w = .ok (.enter (ρ.f 240) args) w := enters_of L.f240 (by kernel_rfl) rfl
 go_enter L.f166, Body.n166_ntmps ρ
 go_wp2_with (go_at_fn (ρ.f 240); refine (copy_raw { L with } X.toX72 b p v _ hp hb).mono ?_)
 rintro e w1 ⟨rfl, hbk, q1, q2, q3, hsz, hkp⟩
 have hown : w1.ownsRow B (ρ.t 5) 1 v n bs := hown0.kept (row := some b) ⟨q1, q2, q3, by omega, fun k _ hkb => hkp k (fun e => hkb (by rw [e]))⟩ (.inr hne)
 have c0 : w1.cell? ⟨b, 0, none⟩ = some (.pointer (some ⟨b, 0, none⟩)) := by rw [Lib.cell_of_heap hbk]; rfl
 have c1 : w1.cell? ⟨b, 1, none⟩ = some v := by rw [Lib.cell_of_heap hbk]; rfl
 go_wp2_with (at_builtin; refine wp_app_str rfl _ _ (ρ.t 37) (ρ.t 9) rfl B (ρ.t 5) i0 L.t37 L.t9 hi hz0 hz1 hz2 _ _ _ rfl hown s rfl ?c4 ?c5 ?_)
 case c4 => omega
 case c5 => omega
 intro v' w2 hown' hgrow hat
 have hlt : b < w1.heap.size := heap_lt hbk
 have hb2 : w2.heap[b]? = some (.cells #[.pointer (some ⟨b, 0, none⟩), v] (ρ.t 72) (0, 0)) := by
  rw [hgrow.block b hlt (fun e => hne e.symm)]
  exact hbk
 have d0 : w2.cell? ⟨b, 0, none⟩ = some (.pointer (some ⟨b, 0, none⟩)) := by rw [Lib.cell_of_heap hb2]; rfl
 have d1 : w2.cell? ⟨b, 1, none⟩ = some v := by rw [Lib.cell_of_heap hb2]; rfl
 have f1 : w2.frozen? ⟨b, 1, none⟩ = false := Lib.frozen_of_heap hb2 1
 obtain ⟨ao, n', cap, rfl⟩ : ∃ ao n' cap, v' = .slice ao n' cap := by
  rcases hown'.2 with ⟨hv, _⟩ | ⟨g, cap, cur, hv, _⟩
  ·exact ⟨_, _, _, hv⟩
  ·exact ⟨_, _, _, hv⟩
 have hne' : (Value.slice ao n' cap).ownBlock ≠ some b := fun e => by
  rcases hat with h | h
  ·rw [h] at e; exact hne e
  ·rw [h] at e; cases e; omega
 go_wp2
 go_ret2
 have hother : ∀ k, k ≠ b → (w2.setCell ⟨b, 1, none⟩ (.slice ao n' cap)).heap[k]? = w2.heap[k]? := fun k hk => by
  simp only [World.setCell]
  rw [Array.getElem?_modify, if_neg (fun e => hk e.symm)]
 refine ⟨rfl, _, ?_, hown'.kept (row := some b) ⟨rfl, rfl, rfl, by simp [World.setCell], fun k _ hk => hother k (fun e => hk (by rw [e]))⟩ (.inr hne'), hne', ⟨_, _, _, rfl⟩, hgrow.os.trans q1, hgrow.tape.trans q2, hgrow.output.trans q3, ?_, fun k hk hkb hkv => ?_, ?_⟩
 ·simp [World.setCell, Array.getElem?_modify, hb2]
 ·have := hgrow.size; simp [World.setCell]; omega
 ·rw [hother k hkb, hgrow.block k (by omega) hkv]
  exact hkp k hkb
 ·rcases hat with h | h
  ·exact .inl h
  ·exact .inr ⟨_, h, by omega⟩

set_option maxHeartbeats 2000000 in
set_option maxRecDepth 100000 in
theorem bstr_raw (L : Lays.n169 P ρ) (X : Builder.Extra P ρ) (B b : Nat) (p v : Value) (l : List UInt8) (w : World) (hbk : w.heap[b]? = some (.cells #[p, v] (ρ.t 72) (0, 0)))
  (hown : w.ownsRow B (ρ.t 5) 1 v l.length (Lib.byteCells l)) (h0 : l ≠ []) :
  Calls P (ρ.f 169) #[.pointer (some ⟨b, 0, none⟩)] w fun e w' => e = .returned (.string ⟨l.toArray⟩) ∧ w'.os = w.os ∧ w'.tape = w.tape ∧ w'.output = w.output ∧ w'.heap.size = w.heap.size ∧ ∀ k, some k ≠ v.ownBlock → w'.heap[k]? = w.heap[k]? := by
 have hl0 : l.length ≠ 0 := by simpa using h0
 obtain ⟨g, cap, cur, rfl, hbg, hg, hnc, hcm, hcs, htake⟩ : ∃ g cap cur, v = .slice (some ⟨g, 0, none⟩) l.length cap ∧ B ≤ g ∧ w.heap[g]? = some (.cells cur (ρ.t 5) (0, 0)) ∧ l.length ≤ cap ∧ cap ≤ maxLen ∧ cur.size = cap * 1 ∧ cur.toList.take (l.length * 1) = Lib.byteCells l := by
  rcases hown.2 with ⟨_, hz⟩ | ⟨g, cap, cur, hv, r⟩
  ·exact absurd hz hl0
  ·exact ⟨g, cap, cur, hv, r⟩
 have c1 : w.drew.cell? ⟨b, 1, none⟩ = some (.slice (some ⟨g, 0, none⟩) l.length cap) := by
  have : w.drew.heap[b]? = some (.cells #[p, .slice (some ⟨g, 0, none⟩) l.length cap] (ρ.t 72) (0, 0)) := hbk
  rw [Lib.cell_of_heap this]; rfl
 have hSD : (Builtin.unsafeSliceData_ #[(ρ.t 37)] (ρ.t 127) #[.slice (some ⟨g, 0, none⟩) l.length cap]).run P w.drew = .ok (.pointer (some ⟨g, 0, none⟩)) w.drew :=
  Lib.run_unsafeSliceData_row _ _ _ _ _ _ (by omega)
 have hUS : (Builtin.unsafeString_ #[(ρ.t 127), (ρ.t 3)] (ρ.t 9) #[.pointer (some ⟨g, 0, none⟩), .int .i64 l.length]).run P w.drew = .ok (.string ⟨l.toArray⟩) (w.drew.freeze ⟨g, 0, none⟩ l.length) := by
  refine Lib.run_unsafeString_row w.drew (ρ.t 127) (ρ.t 3) (ρ.t 9) (ρ.t 5) L.t127 X.cellsByte g cur.size (by have hg' : w.drew.heap[g]? = some (.cells cur (ρ.t 5) (0, 0)) := hg; simp [World.shape?, hg']) l h0 (by omega) (by unfold maxLen at hcm; omega) ?_
  intro j x hx
  have := hown.cells (g := g) rfl j (.int .u8 x.toNat) (by simp [Lib.byteCells, hx])
  exact this
 have mixed := L.mixed
 have t72 := L.t72; have a72 := L.a72; have z72 := L.z72; have v72 := L.v72; have u72 := run_underlying L.t72
 have t70 := L.t70; have a70 := L.a70; have z70 := L.z70; have v70 := L.v70; have u70 := run_underlying L.t70
 have t37 := L.t37; have a37 := L.a37; have z37 := L.z37; have v37 := L.v37; have u37 := run_underlying L.t37
 have t127 := L.t127; have a127 := L.a127; have z127 := L.z127; have v127 := L.v127; have u127 := run_underlying L.t127
 have t3 := L.t3; have a3 := L.a3; have z3 := L.z3; have v3 := L.v3; have u3 := run_underlying L.t3
 have t9 := L.t9; have a9 := L.a9; have z9 := L.z9; have v9 := L.v9; have u9 := run_underlying L.t9
 have t5 := X.t5; have a5 := X.a5; have z5 := X.z5; have v5 := X.v5; have u5 := run_underlying X.t5
 have hfr : (w.drew.freeze ⟨g, 0, none⟩ l.length).os = w.os ∧ (w.drew.freeze ⟨g, 0, none⟩ l.length).tape = w.tape ∧ (w.drew.freeze ⟨g, 0, none⟩ l.length).output = w.output ∧ (w.drew.freeze ⟨g, 0, none⟩ l.length).heap.size = w.heap.size ∧ ∀ k, some k ≠ (Value.slice (some ⟨g, 0, none⟩) l.length cap).ownBlock → (w.drew.freeze ⟨g, 0, none⟩ l.length).heap[k]? = w.heap[k]? := by
  unfold World.freeze
  rw [if_neg hl0]
  refine ⟨rfl, rfl, rfl, Array.size_modify .., fun k hk => ?_⟩
  show (Array.modify w.heap g _)[k]? = _
  rw [Array.getElem?_modify, if_neg (fun e => hk (by rw [← e]; rfl))]
 go_enter L.f169, Body.n169_ntmps ρ
 go_wp2
 go_region_o
 all_goals (go_wp2; go_ret; exact ⟨rfl, hfr⟩)
end

/-! ### the rules -/
def byE (l : List UInt8) : List (List D) := l.map fun b => [D.v (.int .u8 (b.toNat : Int))]
theorem byE_len (l : List UInt8) : (byE l).length = l.length := by simp [byE]
theorem byE_rd {μ : Mu} : ∀ l : List UInt8, RdLL μ (byE l) (l.map fun b => [Value.int .u8 (b.toNat : Int)])
 | [] => by simp [byE, RdLL]
 | b :: l => by
  have := byE_rd (μ := μ) l
  simp only [byE, List.map_cons, RdLL, RdL] at this ⊢
  exact ⟨⟨by simp [Rd, Value.oneCell'], trivial⟩, this⟩
theorem byE_row {μ : Mu} {base : Nat} {w : World} {v : Value} {e : TypeId} {l : List UInt8} : RowOk μ base w v e 1 (byE l) ↔ w.ownsRow base e 1 v l.length (Lib.byteCells l) := by
 constructor
 ·intro h
  obtain ⟨_, vss, h1, _, h3⟩ := h.tab (by decide)
  have h4 := rd_bytes h3
  have h5 : vss.length = l.length := by rw [h3.len, byE_len]
  rw [h4, h5] at h1
  exact h1
 ·intro h
  have hf : (l.map fun b => [Value.int .u8 (b.toNat : Int)]).flatten = Lib.byteCells l := rd_bytes (byE_rd (μ := mu0) l)
  exact .inl ⟨by decide, _, by rw [hf, List.length_map]; exact h, fun e he => by obtain ⟨b, _, rfl⟩ := List.mem_map.1 he; rfl, byE_rd l⟩

def WStr (P : Program) (f : FuncId) (T e : TypeId) : Prop :=
 Ent P f ∧ ∀ (B b : Nat) (p v : Value) (n : Nat) (bs : List Value) (s : ByteArray) (w : World), (p = .pointer none ∨ p = .pointer (some ⟨b, 0, none⟩)) → w.heap[b]? = some (.cells #[p, v] T (0, 0)) →
  w.ownsRow B e 1 v n bs → v.ownBlock ≠ some b → n + s.size ≤ 140737488355328 → B ≤ w.heap.size →
  Calls P f #[.pointer (some ⟨b, 0, none⟩), .string s] w fun e' w' => e' = .returned (.tuple #[.int .i64 s.size, .nilIface]) ∧ ∃ v', w'.heap[b]? = some (.cells #[.pointer (some ⟨b, 0, none⟩), v'] T (0, 0)) ∧
   w'.ownsRow B e 1 v' (n + s.size) (bs ++ Lib.strCells s) ∧ v'.ownBlock ≠ some b ∧ (∃ a n c, v' = .slice a n c) ∧ BldW w w' b v v'
def BStr (P : Program) (f : FuncId) (T e : TypeId) : Prop :=
 Ent P f ∧ (∀ (B b : Nat) (p v : Value) (l : List UInt8) (w : World), w.heap[b]? = some (.cells #[p, v] T (0, 0)) → w.ownsRow B e 1 v l.length (Lib.byteCells l) → l ≠ [] →
  Calls P f #[.pointer (some ⟨b, 0, none⟩)] w fun e' w' => e' = .returned (.string ⟨l.toArray⟩) ∧ w'.os = w.os ∧ w'.tape = w.tape ∧ w'.output = w.output ∧ w'.heap.size = w.heap.size ∧ ∀ k, some k ≠ v.ownBlock → w'.heap[k]? = w.heap[k]?) ∧
 ∀ (B b : Nat) (p : Value) (w : World), w.heap[b]? = some (.cells #[p, .slice none 0 0] T (0, 0)) → Calls P f #[.pointer (some ⟨b, 0, none⟩)] w fun e' w' => e' = .returned (.string ⟨#[]⟩) ∧ Below B w w'

theorem setRow_put {w : World} {b : Nat} {old vs : Array Value} {T : TypeId} (h : w.heap[b]? = some (.cells vs T (0, 0))) : w = (w.putObj b (.cells old T (0, 0))).setRow b vs := by
 have hlt := heap_lt h
 have hh : ((w.putObj b (.cells old T (0, 0))).setRow b vs).heap = w.heap := by
  apply Array.ext_getElem?
  intro i
  by_cases hi : i = b
  ·subst hi
   rw [setRow_heap _ _ old vs T (0, 0) (World.putObj_heap_same hlt), h]
  ·rw [setRow_other _ _ _ _ hi, World.putObj_heap_other hi]
 cases w with
 | mk a1 a2 a3 a4 a5 =>
  simp only [World.setRow, World.putObj, World.mk.injEq] at hh ⊢
  exact ⟨hh.symm, trivial, trivial, trivial, trivial⟩
theorem two_cells {g : Gh} {x y : SV} {cs : Array Value} (h : rels g [x, y] cs.toList) : ∃ p v, cs = #[p, v] ∧ rel g x p ∧ rel g y v := by
 obtain ⟨l⟩ := cs
 match l, h with
 | [p, v], ⟨h1, h2, _⟩ => exact ⟨p, v, rfl, h1, h2⟩
 | [], h => exact h.elim
 | [_], h => exact h.2.elim
 | _ :: _ :: _ :: _, h => exact h.2.2.elim

theorem bld_core {C : Cx} {g : Gh} {st : St} {a : Act} {w w' : World} (ht : TmOk C g st a) (hm : Mem C g st w) {k : Nat} {T e : TypeId} {x y : SV} {p v v' : Value} {l' : List UInt8} (hk : st.bx[k]? = some (some ⟨T, [x, y]⟩))
  (hb : w.heap[g.ρ k]? = some (.cells #[p, v] T (0, 0))) {rw2 : List Rw} (hlen : rw2.length = st.rw.length) (hrw : ∀ k e s l, rw2[k]? = some (.own e s l) → st.rw[k]? = some (.own e s l) ∧ ∀ b, ob (g.σ k) = some b → ob v ≠ some b)
  (hfz : ∀ (k s : Nat) (e : List (List D)), rw2[k]? = some (Rw.frz s e) → st.rw[k]? = some (Rw.frz s e)) (hgh : ∀ (k : Nat) (s : Bool) (ys : List (List SV)), rw2[k]? = some (Rw.gh s ys) → st.rw[k]? = some (Rw.gh s ys))
  (htag : ∀ b, ob v = some b → ∃ r, g.tag b = .row r ∧ ∀ e s l, rw2[r]? ≠ some (Rw.own e s l)) (ho1 : v.ownBlock = ob v) (ho2 : v'.ownBlock = ob v')
  (hb' : w'.heap[g.ρ k]? = some (.cells #[.pointer (some ⟨g.ρ k, 0, none⟩), v'] T (0, 0))) (hown' : w'.ownsRow C.w0.heap.size e 1 v' l'.length (Lib.byteCells l')) (hne : v'.ownBlock ≠ some (g.ρ k)) (hsl : ∃ a n c, v' = .slice a n c) (hW : BldW w w' (g.ρ k) v v') :
  TmOk C (g.addRow v') ⟨st.tm, setN st.bx k (some ⟨T, [.box k 0, .row (lenN st.rw)]⟩), rw2 ++ [.own e 1 (byE l')]⟩ a ∧ Mem C (g.addRow v') ⟨st.tm, setN st.bx k (some ⟨T, [.box k 0, .row (lenN st.rw)]⟩), rw2 ++ [.own e 1 (byE l')]⟩ w' := by
 rw [lenN_eq]
 have hlt := heap_lt hb
 have hkb : k < g.nb := by rw [ht.nb]; exact (List.getElem?_eq_some_iff.1 hk).1
 have htk := (hm.box k _ hk).1
 have hblk : ∀ b, ob v' = some b → ob v = some b ∨ w.heap.size ≤ b := fun b hbb => by
  rcases hW.blk with h | ⟨c, h, h2⟩
  ·rw [ho1, ho2] at h; rw [h] at hbb; exact .inl hbb
  ·rw [ho2, hbb] at h; cases h; exact .inr h2
 have hm1 : Mem C (g.addRow v') ⟨st.tm, st.bx, rw2 ++ [.own e 1 (byE l')]⟩ (w'.putObj (g.ρ k) (.cells #[p, v] T (0, 0))) := by
  refine hm.newRow (w' := w'.putObj (g.ρ k) (.cells #[p, v] T (0, 0))) ht.nr hW.os hW.tape hW.output (by rw [World.putObj_size]; exact hW.size) (byE_row.2 ?_) hlen (fun k' e' s' l hk' => ?_) (rb := ob v) htag (fun b hlt' hv hrb => ?_) (fun b hv hb3 => ?_) hgh
  ·exact hown'.kept (row := some (g.ρ k)) ⟨rfl, rfl, rfl, by simp, fun c _ hc => World.putObj_heap_other (fun e => hc (by rw [e]))⟩ (.inr hne)
  ·obtain ⟨h1, h2⟩ := hrw _ _ _ _ hk'
   refine ⟨h1, fun b hbb hvv => ?_⟩
   rcases hblk b hvv with h | h
   ·exact h2 b hbb h
   ·have := ((hm.row _ _ _ _ h1).1.lt b hbb).2; omega
  ·by_cases hbk : b = g.ρ k
   ·subst hbk
    rw [World.putObj_heap_same (heap_lt hb'), hb]
   ·rw [World.putObj_heap_other hbk]
    exact hW.keep b hlt' hbk (by rw [ho1]; exact hrb)
  ·rcases hblk b hv with h | h
   ·obtain ⟨r, hr, _⟩ := htag b h; exact ⟨r, hr⟩
   ·omega
 have ht1 := ht.newRow v' (.own e 1 (byE l')) hlen (by simp) hfz
 have hm2 := hm1.setBox (b := k) (t := T) (old := [x, y]) (cells := [.box k 0, .row st.rw.length]) (vs := #[.pointer (some ⟨g.ρ k, 0, none⟩), v']) hk (w' := w') (setRow_put hb') ⟨⟨rfl, hkb⟩, ⟨by simp [Gh.addRow, ht.nr], .inl hsl, by simp [Gh.addRow, ht.nr]⟩, trivial⟩
 exact ⟨⟨by simpa [setN_eq] using ht1.nb, ht1.nr, ht1.defers, ht1.size, ht1.tm, ht1.frz, ht1.pin⟩, hm2⟩

theorem CallI.wstr {C : Cx} {st : St} {K : SV → St → Prop} {f k r : Nat} {T e : TypeId} {x : SV} {l : List UInt8} {s : ByteArray} (h : WStr C.P f T e) (hk : nth st.bx k = some (some ⟨T, [x, .row r]⟩)) (hx : x = .v (.pointer none) ∨ x = .box k 0)
  (hr : nth st.rw r = some (.own e 1 (byE l))) (hlen : l.length + s.size ≤ 140737488355328)
  (hK : K (.tup [.v (.int .i64 (s.size : Int)), .v .nilIface]) ⟨st.tm, setN st.bx k (some ⟨T, [.box k 0, .row (lenN st.rw)]⟩), setN st.rw r .gone ++ [.own e 1 (byE (l ++ s.data.toList))]⟩) : CallI C f [.box k 0, .v (.string s)] st K ⟨⟩ := fun g a w ht hm vs hv => by
 rw [nth_eq] at hk hr
 match vs, hv with
 | [u1, u2], ⟨⟨h1, h2⟩, h3, _⟩ =>
  simp only [rel] at h3
  subst h1 h3
  obtain ⟨htk, cs, hcs, hrel⟩ := hm.box _ _ hk
  obtain ⟨p, v, rfl, hp, hv1, hv2, hv3⟩ := two_cells hrel
  subst hv1
  obtain ⟨hrow, htg⟩ := hm.row _ _ _ _ hr
  have hown := byE_row.1 hrow
  have hoo := ob_own hown
  have hp' : p = .pointer none ∨ p = .pointer (some ⟨g.ρ k, 0, none⟩) := by
   rcases hx with rfl | rfl
   ·exact .inl hp
   ·exact .inr hp.1
  have hne : (g.σ r).ownBlock ≠ some (g.ρ k) := fun e => by
   rw [hoo] at e
   have := htg _ e
   rw [htk] at this; cases this
  refine ⟨h.1, (h.2 C.w0.heap.size (g.ρ k) p (g.σ r) l.length _ s w hp' hcs hown hne hlen hm.size).mono ?_⟩
  rintro en w' ⟨rfl, v', q1, q2, q3, q4, q5⟩
  have hl' : l.length + s.size = (l ++ s.data.toList).length := by rw [List.length_append, Array.length_toList]; rfl
  have hc' : Lib.byteCells l ++ Lib.strCells s = Lib.byteCells (l ++ s.data.toList) := by simp [Lib.byteCells, Lib.strCells]
  rw [hl', hc'] at q2
  have hset : ∀ k' e' s' l', (st.rw.set r .gone)[k']? = some (Rw.own e' s' l') → k' ≠ r ∧ st.rw[k']? = some (Rw.own e' s' l') := fun k' e' s' l' hk' => by
   rw [List.getElem?_set] at hk'
   split at hk'
   ·split at hk' <;> cases hk'
   ·rename_i h; exact ⟨fun e => h e.symm, hk'⟩
  obtain ⟨r1, r2⟩ := bld_core (x := x) (y := .row r) (rw2 := setN st.rw r .gone) (l' := l ++ s.data.toList) ht hm hk hcs (by rw [setN_eq]; simp) (fun k' e' s' l' hk' => by
    rw [setN_eq] at hk'
    obtain ⟨h1, h2⟩ := hset _ _ _ _ hk'
    refine ⟨h2, fun b hb hb2 => ?_⟩
    have a1 := (hm.row _ _ _ _ h2).2 b hb
    rw [htg b hb2] at a1; cases a1; exact h1 rfl)
   (fun k' s' e' hk' => by
    rw [setN_eq, List.getElem?_set] at hk'
    split at hk'
    ·split at hk' <;> cases hk'
    ·exact hk')
   (fun k' s' e' hk' => by
    rw [setN_eq, List.getElem?_set] at hk'
    split at hk'
    ·split at hk' <;> cases hk'
    ·exact hk')
   (fun b hb => ⟨r, htg b hb, fun e' s' l' hk' => by rw [setN_eq] at hk'; exact (hset _ _ _ _ hk').1 rfl⟩) hoo (ob_own q2) q1 q2 q3 q4 q5
  exact ⟨_, rfl, g.addRow v', _, _, hK, ⟨_, rfl, rfl, rfl, trivial⟩, r1, r2, fun _ => ⟨g.le_addRow _, Fr.all⟩⟩

/-- String, once: the box and its row are gone. -/
theorem CallI.bstr {C : Cx} {st : St} {K : SV → St → Prop} {f k r : Nat} {T e : TypeId} {x : SV} {l : List UInt8} (h : BStr C.P f T e) (hk : nth st.bx k = some (some ⟨T, [x, .row r]⟩))
  (hr : nth st.rw r = some (.own e 1 (byE l))) (hl : l ≠ [])
  (hK : K (.v (.string ⟨l.toArray⟩)) ⟨st.tm, setN st.bx k none, setN st.rw r .gone⟩) : CallI C f [.box k 0] st K ⟨⟩ := fun g a w ht hm vs hv => by
 rw [nth_eq] at hk hr
 match vs, hv with
 | [u1], ⟨⟨h1, h2⟩, _⟩ =>
  subst h1
  obtain ⟨htk, cs, hcs, hrel⟩ := hm.box _ _ hk
  obtain ⟨p, v, rfl, hp, hv1, hv2, hv3⟩ := two_cells hrel
  subst hv1
  obtain ⟨hrow, htg⟩ := hm.row _ _ _ _ hr
  have hown := byE_row.1 hrow
  have hoo := ob_own hown
  refine ⟨h.1, (h.2.1 C.w0.heap.size (g.ρ k) p (g.σ r) l w hcs hown hl).mono ?_⟩
  rintro en w' ⟨rfl, q1, q2, q3, q4, q5⟩
  have hq : ∀ b, g.tag b ≠ .row r → w'.heap[b]? = w.heap[b]? := fun b hb => q5 b fun e => hb (htg b (by rw [← hoo]; exact e.symm))
  have hset : ∀ (k' : Nat) (z : Rw), (∀ h : z = .gone, False) → (st.rw.set r .gone)[k']? = some z → k' ≠ r ∧ st.rw[k']? = some z := fun k' z hz hk' => by
   rw [List.getElem?_set] at hk'
   split at hk'
   ·split at hk' <;> cases hk'; exact (hz rfl).elim
   ·rename_i h; exact ⟨fun e => h e.symm, hk'⟩
  have hbx : ∀ (k' : Nat) (z : Bx), (st.bx.set k none)[k']? = some (some z) → st.bx[k']? = some (some z) := fun k' z hk' => by
   rw [List.getElem?_set] at hk'
   split at hk'
   ·split at hk' <;> cases hk'
   ·exact hk'
  rw [setN_eq, setN_eq] at hK
  refine ⟨_, rfl, g, _, _, hK, rfl, ⟨by simp [ht.nb], by simp [ht.nr], ht.defers, ht.size, ht.tm, fun k' s' e' hk' => ht.frz _ _ _ (hset _ _ (fun h => by cases h) hk').2, ht.pin⟩, ?_, fun _ => ⟨.refl _, Fr.all⟩⟩
  have hi : ∀ b, g.tag b = .imm → w'.heap[b]? = w.heap[b]? := fun b hb => hq b (by rw [hb]; exact fun e => by cases e)
  refine ⟨q1.trans hm.os, q2.trans hm.tape, q3.trans hm.output, by rw [q4]; exact hm.size, fun q b hb => ⟨(hi b (hm.old q b hb).2).trans (hm.old q b hb).1, (hm.old q b hb).2⟩, fun b hb => hm.fresh b (by rw [← q4]; exact hb), fun k' b hk' => ?_, fun k' e' s' l' hk' => ?_,
   fun f => ⟨fun b o ho => (hi b ((hm.imm f).2 b o ho)).trans ((hm.imm f).1 b o ho), (hm.imm f).2⟩, hm.keep, fun b hb => ⟨(hm.np b hb).1, by rw [q4]; exact (hm.np b hb).2⟩, hm.hs.next rfl rfl rfl (by rw [q4]; exact Nat.le_refl _) (fun _ _ _ ho => .inl ho) fun k' s' ys hk' => ⟨k', (hset _ _ (fun h => by cases h) hk').2⟩⟩
  ·obtain ⟨a1, cs', a2, a3⟩ := hm.box _ _ (hbx _ _ hk')
   exact ⟨a1, cs', (hq _ (by rw [a1]; exact fun e => by cases e)).trans a2, a3⟩
  ·obtain ⟨b1, b2⟩ := hset _ _ (fun h => by cases h) hk'
   obtain ⟨a1, a2⟩ := hm.row _ _ _ _ b2
   exact ⟨a1.keep fun b hb => hq b (by rw [a2 b hb]; exact fun e => by cases e; exact b1 rfl), a2⟩
theorem CallI.bstr0 {C : Cx} {st : St} {K : SV → St → Prop} {f k : Nat} {T e : TypeId} {x : SV} (h : BStr C.P f T e) (hk : nth st.bx k = some (some ⟨T, [x, .v (.slice none 0 0)]⟩))
  (hK : K (.v (.string ⟨#[]⟩)) st) : CallI C f [.box k 0] st K ⟨⟩ := fun g a w ht hm vs hv => by
 rw [nth_eq] at hk
 match vs, hv with
 | [u1], ⟨⟨h1, h2⟩, _⟩ =>
  subst h1
  obtain ⟨htk, cs, hcs, hrel⟩ := hm.box _ _ hk
  obtain ⟨p, v, rfl, hp, hv1⟩ := two_cells hrel
  simp only [rel] at hv1
  subst hv1
  refine ⟨h.1, (h.2.2 w.heap.size (g.ρ k) p w hcs).mono ?_⟩
  rintro en w' ⟨rfl, hb⟩
  exact ⟨_, rfl, g, _, _, hK, rfl, ht, hm.ext hb, fun _ => ⟨.refl _, Fr.all⟩⟩
end Go.Vx
