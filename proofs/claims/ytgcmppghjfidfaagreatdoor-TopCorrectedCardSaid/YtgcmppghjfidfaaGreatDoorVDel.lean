/-
 Chapter 8: parts are taken out of a copy, by the library's own text.
-/
import Derived.Test.YtgcmppghjfidfaaGreatDoorVIns
import Derived.Test.YtgcmppghjfidfaaGreatDoorVB8
import Derived.Shelf.RegionOpenPlain
import Derived.WalkKit
import Derived.Deep.RegionLaw
import Derived.Lib.Walk
import Derived.Lib.SliceRun
import Derived.Shelf.Spec.SlicesInsert
namespace Go.Proofs.YtgcmppghjfidfaaGreatDoor
open Go Go.Vx Go.Shelf Go.RowKit Go.Lib
set_option linter.unusedSimpArgs false
set_option linter.unusedVariables false
theorem run_clear_cells {P : Program} (w : World) (t e ty : TypeId) (z : Value) (ht : P.underlying t = some (.slice e)) (hv : ∀ w, (zeroValue e).run P w = .ok z w) (n : Nat) (zs : List Value) (hz : (Builtin.zeroCells z.cells n).toList = zs) (h1 : ∀ v ∈ zs, v.oneCell' = true) (b o c : Nat) (hn : 0 < n)
  (hc : ∀ j, j < zs.length → (w.cell? ⟨b, o + j, none⟩).isSome = true) (hf : ∀ j, j < zs.length → w.frozen? ⟨b, o + j, none⟩ = false) :
  (Builtin.clear_ #[t] ty #[.slice (some ⟨b, o, none⟩) n c]).run P w = .ok (.tuple #[]) (w.setCells b o zs) := by
 have hst := run_storeCells_cells (P := P) b o zs 0 w (by simpa using hc) (by simpa using hf) h1
 simp only [Nat.add_zero] at hst
 obtain ⟨m, rfl⟩ : ∃ m, n = m + 1 := ⟨n - 1, by omega⟩
 simp [Builtin.clear_, run_underlying ht, hv, hz, hst]
def zP : Value := .agg #[.int .i64 0, .slice none 0 0]
theorem zP_cells (n : Nat) : ∃ zs, (Builtin.zeroCells zP.cells n).toList = zs ∧ zs.length = n * 2 ∧ ∀ v ∈ zs, v.oneCell' = true := by
 refine ⟨_, rfl, by simp [Builtin.zeroCells, zP, Value.cells], fun v hv => ?_⟩
 simp [Builtin.zeroCells, zP, Value.cells] at hv
 obtain ⟨a, -, rfl⟩ := hv
 rcases Nat.mod_two_eq_zero_or_one a with h | h <;> rw [h] <;> rfl
set_option maxHeartbeats 4000000 in
set_option maxRecDepth 1000000 in
theorem deleteP_raw (b n cap i j : Nat) (cs : List Value) (w : World) (hl : cs.length = n * 2) (hij : i < j) (hj : j ≤ n) (hcap : n ≤ cap) (hm : cap ≤ 9223372036854775807)
  (hcs : ∀ t u, cs[t]? = some u → w.cell? ⟨b, t, none⟩ = some u) (hfz : ∀ t, t < n * 2 → w.frozen? ⟨b, t, none⟩ = false) (h1c : ∀ u ∈ cs, u.oneCell' = true) :
  Calls Tryz.prog 125 #[.slice (some ⟨b, 0, none⟩) n cap, .int .i64 i, .int .i64 j] w fun e w' => e = .returned (.slice (some ⟨b, 0, none⟩) (n - (j - i)) cap) ∧
   ∃ zs : List Value, zs.length = (j - i) * 2 ∧ w' = (w.drew.setCells b (i * 2) (cs.drop (j * 2))).setCells b ((n - (j - i)) * 2) zs := by
 obtain ⟨zs, z1, z2, z3⟩ := zP_cells (j - i)
 obtain ⟨news, hnews⟩ : ∃ news, news = cs.drop (j * 2) := ⟨_, rfl⟩
 have hlen : news.length = (n - j) * 2 := by rw [hnews]; simp [hl]; omega
 obtain ⟨A, hA, hsrc⟩ : ∃ A : Addr, (if cap = j then some (⟨b, 0, none⟩ : Addr) else some ⟨b, j * 2, none⟩) = some A ∧ Hid (∀ t u, news[t]? = some u → w.drew.cell? (A.add t) = some u) := by
  by_cases h : cap = j
  ·refine ⟨⟨b, 0, none⟩, by simp [h], fun t u hu => ?_⟩
   have h0 : news.length = 0 := by rw [hlen]; omega
   rw [List.length_eq_zero_iff.1 h0] at hu
   simp at hu
  ·refine ⟨⟨b, j * 2, none⟩, by simp [h], fun t u hu => ?_⟩
   rw [hnews, List.getElem?_drop] at hu
   rw [Addr.add_lit]
   exact hcs (j * 2 + t) u hu
 have s2 : Hid (∀ u ∈ news, u.oneCell' = true) := fun u hu => h1c u (by rw [hnews] at hu; exact List.mem_of_mem_drop hu)
 have hin : ∀ t, t < n * 2 → (w.cell? ⟨b, t, none⟩).isSome = true := fun t ht => by
  rw [hcs t cs[t] (List.getElem?_eq_getElem (by omega))]; rfl
 have s3 : Hid (∀ t, t < news.length → (w.drew.cell? ⟨b, 0 + i * 2 + t, none⟩).isSome = true ∧ w.drew.frozen? ⟨b, 0 + i * 2 + t, none⟩ = false) := fun t ht => by
  rw [hlen] at ht
  exact ⟨hin _ (by omega), hfz _ (by omega)⟩
 obtain ⟨W1, hW1⟩ : ∃ W1, W1 = w.drew.setCells b (0 + i * 2) news := ⟨_, rfl⟩
 have hW1s : ∀ k, k < n * 2 → (W1.cell? ⟨b, k, none⟩).isSome = true := fun k hk => by
  rw [hW1]
  exact isSome_setCells b _ _ _ (fun t ht => by rw [hlen] at ht; exact hin _ (by omega)) _ (hin k hk)
 have hcl : ∀ ty, (Builtin.clear_ #[22] ty #[.slice (some ⟨b, (i + (n - j)) * 2, none⟩) (n - (i + (n - j))) (cap - (i + (n - j)))]).run Tryz.prog W1 = .ok (.tuple #[]) (W1.setCells b ((i + (n - j)) * 2) zs) :=
  fun ty => run_clear_cells W1 22 81 ty zP Tryz.underlying22 Tryz.zeroValue81 (n - (i + (n - j))) zs (by rw [show n - (i + (n - j)) = j - i by omega]; exact z1) z3 b ((i + (n - j)) * 2) _ (by omega) (fun t ht => hW1s _ (by omega)) (fun t ht => by
   rw [hW1, World.frozen?_setCells]; exact hfz _ (by omega))
 have X : Aside (W1 = w.drew.setCells b (0 + i * 2) news) := hW1
 have Z : Aside (news = cs.drop (j * 2)) := hnews
 have hic : i ≤ cap := by omega
 have hjc : j ≤ cap := by omega
 have hne : ¬ ((i : Int) = (j : Int)) := by omega
 have hi0 : ∃ i0, Tryz.prog.info? 81 = some i0 ∧ i0.size = 2 := ⟨_, rfl, rfl⟩
 obtain ⟨i0, hi0, hz1⟩ := hi0
 have hL : Hid (news.length = (n - j) * 2) := hlen
 have hW : Hid (W1 = w.drew.setCells b (0 + i * 2) news) := hW1
 clear hW1 hW1s hnews hlen hcs hfz h1c hin z1
 have mixed : Tryz.prog.follows Departure.mixedOrders = true := rfl
 go_enter Tryz.func125, Tryz.ntmps125
 go_wp2_with fail
 go_region_law_o (refine step_append_room rfl (.tmp 22) (.tmp 25) 22 rfl 81 i0 2 Tryz.underlying22 hi0 hz1 b 0 i cap (by simp [Act.eval, Act.put]) A (n - j) (cap - j) news (by simp [Act.eval, Act.put]) hL.out hsrc.out s2.out (by omega) s3.out ?_; rw [← hW.out])
 go_wp2
 go_ret
 refine ⟨by rw [show n - (j - i) = i + (n - j) by omega]; rfl, zs, z2, ?_⟩
 rw [X.out, ← Z.out, show i + (n - j) = n - (j - i) by omega, Nat.zero_add]
end Go.Proofs.YtgcmppghjfidfaaGreatDoor
