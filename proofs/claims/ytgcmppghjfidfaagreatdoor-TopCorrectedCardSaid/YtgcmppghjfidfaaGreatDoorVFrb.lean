/-
 Own boxes that become immutable while the function goes on.
-/
import Derived.Test.YtgcmppghjfidfaaGreatDoorVIt3
namespace Go.Vx
open Go
def frzTm (k : Nat) (ds : List D) : List (Nat × SV) → List (Nat × SV)
 | [] => []
 | p :: l => (p.1, bxV [(k, ds)] p.2) :: frzTm k ds l
theorem look_frz (k : Nat) (ds : List D) (t : Nat) : ∀ l : List (Nat × SV), look (frzTm k ds l) t = bxV [(k, ds)] (look l t)
 | [] => rfl
 | p :: l => by
  obtain ⟨j, x⟩ := p
  simp only [frzTm, look]
  split
  ·rfl
  ·exact look_frz k ds t l
theorem StLe.frzB {C : Cx} {st : St} (hbase : ∀ fo x, frS C fo true x = false → C.w0.heap.size ≤ x ∧ C.pin.np x = false) (k : Nat) {b : Bx} {ds : List D} (hk : nth st.bx k = some (some b)) (hds : toDL st.rw b.cells = some ds) :
  StLe C st ⟨frzTm k ds st.tm, setN st.bx k none, st.rw⟩ := fun g a w hm => by
 rw [nth_eq] at hk
 obtain ⟨hle, hmod, hrel⟩ := frzB_one hm hk hds fun x hx => hbase _ x hx
 refine ⟨_, ⟨hmod.tm.nb, hmod.tm.nr, hmod.tm.defers, hmod.tm.size, fun t => ?_, hmod.tm.frz, hmod.tm.pin⟩, ⟨hmod.mem.os, hmod.mem.tape, hmod.mem.output, hmod.mem.size, hmod.mem.old, hmod.mem.fresh, hmod.mem.box, hmod.mem.row, hmod.mem.imm, hmod.mem.keep, hmod.mem.np, hmod.mem.hs.same (Nat.le_refl _) rfl⟩⟩
 simp only [look_frz]
 refine rel_bxV hle (fun j dd hj o u hu => ?_) _ _ (hm.tm.tm t)
 simp only [assB] at hj
 split at hj
 ·rename_i e; subst e; cases hj
  exact hrel o u hu
 ·cases hj
theorem base0 {P : Program} {w0 : World} {N : Nat} {kp : Hp} {dr : Bool} : ∀ fo x, frS ⟨P, w0, N, kp, pin0, dr⟩ fo true x = false → w0.heap.size ≤ x ∧ pin0.np x = false := fun fo x h => by
 simp [frS, pin0, ho0] at h
 exact ⟨h, rfl⟩
theorem noFrz3 (e1 s1 : Nat) (l1 : List (List D)) (e2 s2 : Nat) (l2 : List (List D)) (e3 s3 : Nat) (l3 : List (List D)) : ∀ (k : Nat) s els, [Rw.own e1 s1 l1, Rw.own e2 s2 l2, Rw.own e3 s3 l3][k]? = some (Rw.frz s els) → False := by
 intro k s els h
 rcases k with _ | _ | _ | k <;> simp at h
/-- a loop's state with the rows that are to stay named by hand (a caller's, while its callee is carried out in place). -/
theorem LoopW.compG (γ keep : List Nat) {C : Cx} {c : Code} {st : St} {K : Exit → St → Prop} (h : leA C st (compK γ keep st)) (h1 : LoopW C c (compK γ keep st) K ⟨⟩) : LoopW C c st K ⟨⟩ := LoopW.le (StLe.auto h) h1
end Go.Vx
