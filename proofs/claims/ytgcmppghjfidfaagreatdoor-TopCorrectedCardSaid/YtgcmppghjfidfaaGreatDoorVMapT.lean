/-
 Own maps of known kinds: what is looked up and put.
-/
import Derived.Test.YtgcmppghjfidfaaGreatDoorVLib
namespace Go.Vx
open Go
set_option linter.unusedSimpArgs false
def eII (p : Int × Int) : List D := [.v (.int .i64 p.1), .v (.int .i64 p.2)]
def eIB (p : Int × Bool) : List D := [.v (.int .i64 p.1), .v (.bool p.2)]
def eSB (p : ByteArray × Bool) : List D := [.v (.string p.1), .v (.bool p.2)]
def luk {α β : Type} [DecidableEq α] (a : α) : List (α × β) → Option β
 | [] => none
 | p :: l => if p.1 = a then some p.2 else luk a l
def upd {α β : Type} [DecidableEq α] (a : α) (b : β) : List (α × β) → List (α × β)
 | [] => [(a, b)]
 | p :: l => if p.1 = a then (a, b) :: l else p :: upd a b l
theorem luk_upd {α β : Type} [DecidableEq α] (a c : α) (b : β) : ∀ l : List (α × β), luk c (upd a b l) = if a = c then some b else luk c l
 | [] => by simp [upd, luk]
 | p :: l => by
  unfold upd
  by_cases h : p.1 = a
  ·rw [if_pos h]
   by_cases hc : a = c
   ·simp [luk, hc]
   ·simp [luk, hc, h]
  ·rw [if_neg h]
   unfold luk
   rw [luk_upd a c b l]
   by_cases hc : a = c
   ·subst hc; simp [h]
   ·simp [hc]
theorem ents_ii : ∀ m : List (Int × Int), entsOk (some .i64) (m.map eII) = true
 | [] => rfl
 | p :: m => by simp only [List.map_cons, eII, entsOk, List.all_cons, entOk, keyIs, Bool.and_eq_true]; exact ⟨rfl, ents_ii m⟩
theorem ents_ib : ∀ m : List (Int × Bool), entsOk (some .i64) (m.map eIB) = true
 | [] => rfl
 | p :: m => by simp only [List.map_cons, eIB, entsOk, List.all_cons, entOk, keyIs, Bool.and_eq_true]; exact ⟨rfl, ents_ib m⟩
theorem ents_sb : ∀ m : List (ByteArray × Bool), entsOk none (m.map eSB) = true
 | [] => rfl
 | p :: m => by simp only [List.map_cons, eSB, entsOk, List.all_cons, entOk, keyIs, Bool.and_eq_true]; exact ⟨trivial, ents_sb m⟩
theorem kEq_i (a b : Int) : kEq (.int .i64 a) (.int .i64 b) = decide (b = a) := by
 simp only [kEq]
 by_cases h : a = b
 ·subst h; simp
 ·have h2 : ¬ b = a := fun e => h e.symm
  simp [h, h2]
theorem kEq_s (a b : ByteArray) : kEq (.string a) (.string b) = decide (b = a) := by
 simp only [kEq]
 by_cases h : a = b
 ·subst h; simp [(MapKept.bytes_beq a a).2 rfl]
 ·rw [decide_eq_false (fun e => h e.symm)]
  cases hb : (a == b) with
  | false => rfl
  | true => exact absurd ((MapKept.bytes_beq a b).1 hb) h
theorem lk_ii (a : Int) : ∀ m : List (Int × Int), lkE (.int .i64 a) (m.map eII) = (luk a m).map (Value.int .i64)
 | [] => rfl
 | p :: m => by
  simp only [List.map_cons, eII, lkE, kEq_i, luk]
  by_cases h : p.1 = a
  ·simp [h]
  ·simp only [h, decide_false, Bool.false_eq_true, if_false]; exact lk_ii a m
theorem lk_ib (a : Int) : ∀ m : List (Int × Bool), lkE (.int .i64 a) (m.map eIB) = (luk a m).map Value.bool
 | [] => rfl
 | p :: m => by
  simp only [List.map_cons, eIB, lkE, kEq_i, luk]
  by_cases h : p.1 = a
  ·simp [h]
  ·simp only [h, decide_false, Bool.false_eq_true, if_false]; exact lk_ib a m
theorem lk_sb (a : ByteArray) : ∀ m : List (ByteArray × Bool), lkE (.string a) (m.map eSB) = (luk a m).map Value.bool
 | [] => rfl
 | p :: m => by
  simp only [List.map_cons, eSB, lkE, kEq_s, luk]
  by_cases h : p.1 = a
  ·simp [h]
  ·simp only [h, decide_false, Bool.false_eq_true, if_false]; exact lk_sb a m
theorem up_ii (a b : Int) : ∀ m : List (Int × Int), upE (.int .i64 a) (.int .i64 b) (m.map eII) = (upd a b m).map eII
 | [] => rfl
 | p :: m => by
  simp only [List.map_cons, eII, upE, kEq_i, upd]
  by_cases h : p.1 = a
  ·simp [h, eII]
  ·simp only [h, decide_false, Bool.false_eq_true, if_false, List.map_cons]; rw [up_ii a b m]; rfl
theorem up_ib (a : Int) (b : Bool) : ∀ m : List (Int × Bool), upE (.int .i64 a) (.bool b) (m.map eIB) = (upd a b m).map eIB
 | [] => rfl
 | p :: m => by
  simp only [List.map_cons, eIB, upE, kEq_i, upd]
  by_cases h : p.1 = a
  ·simp [h, eIB]
  ·simp only [h, decide_false, Bool.false_eq_true, if_false, List.map_cons]; rw [up_ib a b m]; rfl
theorem up_sb (a : ByteArray) (b : Bool) : ∀ m : List (ByteArray × Bool), upE (.string a) (.bool b) (m.map eSB) = (upd a b m).map eSB
 | [] => rfl
 | p :: m => by
  simp only [List.map_cons, eSB, upE, kEq_s, upd]
  by_cases h : p.1 = a
  ·simp [h, eSB]
  ·simp only [h, decide_false, Bool.false_eq_true, if_false, List.map_cons]; rw [up_sb a b m]; rfl
theorem getD_i (o : Option Int) (z : Int) : (o.map (Value.int .i64)).getD (.int .i64 z) = .int .i64 (o.getD z) := by cases o <;> rfl
theorem getD_b (o : Option Bool) (z : Bool) : (o.map Value.bool).getD (.bool z) = .bool (o.getD z) := by cases o <;> rfl
theorem maps : (∀ m : List (Int × Int), entsOk (some .i64) (m.map eII) = true) ∧ (∀ m : List (Int × Bool), entsOk (some .i64) (m.map eIB) = true) ∧ (∀ m : List (ByteArray × Bool), entsOk none (m.map eSB) = true) ∧
  (∀ a (m : List (Int × Int)), lkE (.int .i64 a) (m.map eII) = (luk a m).map (Value.int .i64)) ∧ (∀ a (m : List (Int × Bool)), lkE (.int .i64 a) (m.map eIB) = (luk a m).map Value.bool) ∧ (∀ a (m : List (ByteArray × Bool)), lkE (.string a) (m.map eSB) = (luk a m).map Value.bool) ∧
  (∀ a b (m : List (Int × Int)), upE (.int .i64 a) (.int .i64 b) (m.map eII) = (upd a b m).map eII) ∧ (∀ a b (m : List (Int × Bool)), upE (.int .i64 a) (.bool b) (m.map eIB) = (upd a b m).map eIB) ∧ (∀ a b (m : List (ByteArray × Bool)), upE (.string a) (.bool b) (m.map eSB) = (upd a b m).map eSB) ∧
  (∀ (o : Option Int) z, (o.map (Value.int .i64)).getD (.int .i64 z) = .int .i64 (o.getD z)) ∧ (∀ (o : Option Bool) z, (o.map Value.bool).getD (.bool z) = .bool (o.getD z)) :=
 ⟨ents_ii, ents_ib, ents_sb, lk_ii, lk_ib, lk_sb, up_ii, up_ib, up_sb, getD_i, getD_b⟩
end Go.Vx
