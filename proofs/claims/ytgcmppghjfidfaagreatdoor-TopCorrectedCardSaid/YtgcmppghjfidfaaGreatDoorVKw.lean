/-
 A result may be told less exactly: an empty slice for a nil one.
-/
import Derived.Test.YtgcmppghjfidfaaGreatDoorVMut
namespace Go.Vx
open Go Go.RowKit
def WkD (d d' : D) : Prop := ∀ μ u, Rd μ d u → Rd μ d' u
def WkV (v v' : SV) : Prop := ∀ g u, rel g v u → rel g v' u
theorem WkD.refl (d : D) : WkD d d := fun _ _ h => h
theorem WkD.nil (b : Bool) (sz : Nat) : WkD (.v (.slice none 0 0)) (.sl b sz []) := fun μ u h => by
 simp only [Rd] at h
 obtain ⟨rfl, -⟩ := h
 simp only [Rd]
 exact ⟨none, 0, rfl, Nat.le_refl _, by simp [RdE]⟩
def WkL : List D → List D → Prop
 | [], [] => True
 | d :: l, d' :: l' => WkD d d' ∧ WkL l l'
 | _, _ => False
theorem WkL.len : ∀ {l l' : List D}, WkL l l' → l'.length = l.length
 | [], [], _ => rfl
 | _ :: _, _ :: _, h => by simp [WkL.len h.2]
 | [], _ :: _, h => h.elim
 | _ :: _, [], h => h.elim
theorem WkL.rdc {μ : Mu} {b : Bool} {a : Addr} : ∀ {l l' : List D} {j : Nat}, WkL l l' → RdC μ l b a j → RdC μ l' b a j
 | [], [], _, _, _ => by simp [RdC]
 | d :: l, d' :: l', j, h, k => by
  simp only [RdC] at k ⊢
  obtain ⟨⟨x, h1, h2⟩, h3⟩ := k
  exact ⟨⟨x, h1, h.1 _ _ h2⟩, WkL.rdc h.2 h3⟩
 | [], _ :: _, _, h, _ => h.elim
 | _ :: _, [], _, h, _ => h.elim
theorem WkL.rde {α : Type} {f f' : α → List D} (h : ∀ x, WkL (f x) (f' x)) {μ : Mu} {b : Bool} {A : Option Addr} {sz : Nat} : ∀ {l : List α} {i : Nat}, RdE μ (l.map f) b A sz i → RdE μ (l.map f') b A sz i
 | [], _, _ => by simp [RdE]
 | x :: l, i, k => by
  simp only [List.map_cons, RdE] at k ⊢
  obtain ⟨⟨h0, ad, h1, h2⟩, h3⟩ := k
  exact ⟨⟨by rw [(h x).len, h0], ad, h1, (h x).rdc h2⟩, WkL.rde h h3⟩
theorem WkV.refl (v : SV) : WkV v v := fun _ _ h => h
theorem WkV.sl {α : Type} {f f' : α → List D} (h : ∀ x, WkL (f x) (f' x)) (b : Bool) (sz : Nat) (l : List α) : WkV (.sl b sz (l.map f)) (.sl b sz (l.map f')) := fun g u k => by
 simp only [rel, Rd, List.length_map] at k ⊢
 obtain ⟨A, c, h1, h2, h3⟩ := k
 exact ⟨A, c, h1, h2, WkL.rde h h3⟩
def WkVs : List SV → List SV → Prop
 | [], [] => True
 | v :: l, v' :: l' => WkV v v' ∧ WkVs l l'
 | _, _ => False
theorem WkVs.rels {g : Gh} : ∀ {l l' : List SV} {us : List Value}, WkVs l l' → Go.Vx.rels g l us → Go.Vx.rels g l' us
 | [], [], [], _, _ => by simp [Go.Vx.rels]
 | _ :: _, _ :: _, _ :: _, h, k => by
  simp only [Go.Vx.rels] at k ⊢
  exact ⟨h.1 _ _ k.1, WkVs.rels h.2 k.2⟩
 | [], [], _ :: _, _, k => by simp [Go.Vx.rels] at k
 | _ :: _, _ :: _, [], _, k => by simp [Go.Vx.rels] at k
 | [], _ :: _, _, h, _ => h.elim
 | _ :: _, [], _, h, _ => h.elim
theorem WkV.tup {l l' : List SV} (h : WkVs l l') : WkV (.tup l) (.tup l') := fun g u k => by
 simp only [rel] at k ⊢
 obtain ⟨cs, h1, h2⟩ := k
 exact ⟨cs, h1, h.rels h2⟩
theorem WkV.agg {l l' : List SV} (h : WkVs l l') : WkV (.agg l) (.agg l') := fun g u k => by
 simp only [rel] at k ⊢
 obtain ⟨cs, h1, h2⟩ := k
 exact ⟨cs, h1, h.rels h2⟩
end Go.Vx
