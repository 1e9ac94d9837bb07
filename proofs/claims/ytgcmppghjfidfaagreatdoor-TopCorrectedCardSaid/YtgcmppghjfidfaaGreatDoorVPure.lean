/-
 Contracts of functions that only reckon: from what is known of their calls.
-/
import Derived.Test.YtgcmppghjfidfaaGreatDoorVMut
namespace Go.Vx
open Go Go.RowKit
theorem rels_vs {g : Gh} : ∀ {xs us : List Value}, rels g (xs.map .v) us → us = xs
 | [], [], _ => rfl
 | x :: xs, u :: us, h => by
  simp only [List.map_cons, rels, rel] at h
  rw [h.1, rels_vs h.2]
 | [], _ :: _, h => by simp [rels] at h
 | _ :: _, [], h => by simp [rels] at h
theorem rels_same {g : Gh} : ∀ xs : List Value, rels g (xs.map .v) xs
 | [] => by simp [rels]
 | x :: xs => by
  simp only [List.map_cons, rels, rel]
  exact ⟨trivial, rels_same xs⟩
/-- the world is as it was, or has only more of it: the answer tells no address. -/
theorem RetOk.plain {w w' : World} {kp : Hp} (hk : kp.In w) (hb : Below w.heap.size w w') {v : SV} {u : Value} (hv : ∀ g, rel g v u) : RetOk w w' kp ⟨v, []⟩ u := by
 refine ⟨hb, ⟨0, 0, fun _ => 0, fun _ => .nilFunc, fun _ => .imm, (fun f => if f then kp else fun _ => none), fun b => decide (b < w.heap.size), w, fun _ => false⟩, rfl, rfl, hv _, fun _ _ => rfl, fun k x hk => by simp at hk, fun k e s els hk => by simp at hk, ?_, fun b o hb => ⟨rfl, .inr ⟨o, hb⟩⟩, rfl⟩
 intro b o hb'
 have h1 := hk b o (by simpa using hb')
 have h2 : b < w.heap.size := (Array.getElem?_eq_some_iff.1 h1).1
 rw [hb.block b h2]; exact h1
/-- a function of values, that answers a value. -/
theorem Ctr.vals {P : Program} {f : FuncId} {fn : Func} {xs : List Value} {v : SV} {u : Value} (hf : P.funcs[f]? = some fn) (hn : (fn.name == "runtime.NumGoroutine") = false) (hb : fn.body.isNone = false) (hv : ∀ g, rel g v u) (h : ∀ w, Calls P f xs.toArray w fun e w' => e = .returned u ∧ Below w.heap.size w w') : Ctr P f (xs.map .v) (fun rr => rr = ⟨v, []⟩) :=
 ⟨⟨fn, hf, hn, hb⟩, fun w kp hk vs hr => by
  rw [rels_vs hr]
  refine (h w).mono ?_
  rintro e w' ⟨rfl, hw⟩
  exact ⟨u, _, rfl, rfl, RetOk.plain hk hw hv⟩⟩
end Go.Vx
