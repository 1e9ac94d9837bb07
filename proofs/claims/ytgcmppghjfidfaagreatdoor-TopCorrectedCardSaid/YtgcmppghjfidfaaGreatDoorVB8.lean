/-
 Chapter 8: data of the program as cells.
-/
import Derived.Test.YtgcmppghjfidfaaGreatDoorVT
import Derived.Test.YtgcmppghjfidfaaGreatDoorVSx
namespace Go.Proofs.YtgcmppghjfidfaaGreatDoor
open Go Go.Vx
set_option linter.unusedSimpArgs false
theorem sxE : type_of% (And.intro sx1 (And.intro tys sxR)) := And.intro sx1 (And.intro tys sxR)
theorem mixed : Tryz.prog.follows .mixedOrders = true := rfl
def eI (n : Int) : List D := [.v (.int .i64 n)]
def eS (s : ByteArray) : List D := [.v (.string s)]
/-- A row of a table, as one cell. -/
def eIL (l : List Int) : List D := [.sl true 1 (l.map eI)]
/-- A mark. -/
structure Mk where
 mark : Int
 part : Int
 word : Int
 old : ByteArray
 new : ByteArray
 was : Int
 kind : Int
 deriving DecidableEq
def eM (m : Mk) : List D := [.v (.int .i64 m.mark), .v (.int .i64 m.part), .v (.int .i64 m.word), .v (.string m.old), .v (.string m.new), .v (.int .i64 m.was), .v (.int .i64 m.kind)]
def mV (m : Mk) : SV := .agg [.v (.int .i64 m.mark), .v (.int .i64 m.part), .v (.int .i64 m.word), .v (.string m.old), .v (.string m.new), .v (.int .i64 m.was), .v (.int .i64 m.kind)]
/-- A part of a copy. -/
structure Pt where
 kind : Int
 words : List ByteArray
 deriving DecidableEq
def eP (b : Bool) (p : Pt) : List D := [.v (.int .i64 p.kind), .sl b 1 (p.words.map eS)]
/-- An edit. -/
structure Ed where
 fr : Int
 to : Int
 deriving DecidableEq
def eE (x : Ed) : List D := [.v (.int .i64 x.fr), .v (.int .i64 x.to)]
theorem encs : (∀ n, eI n = [.v (.int .i64 n)]) ∧ (∀ n, eS n = [.v (.string n)]) ∧ (∀ l, eIL l = [.sl true 1 (l.map eI)]) ∧
  (∀ m, eM m = [.v (.int .i64 m.mark), .v (.int .i64 m.part), .v (.int .i64 m.word), .v (.string m.old), .v (.string m.new), .v (.int .i64 m.was), .v (.int .i64 m.kind)]) ∧
  (∀ m, mV m = .agg [.v (.int .i64 m.mark), .v (.int .i64 m.part), .v (.int .i64 m.word), .v (.string m.old), .v (.string m.new), .v (.int .i64 m.was), .v (.int .i64 m.kind)]) ∧
  (∀ b p, eP b p = [.v (.int .i64 p.kind), .sl b 1 (p.words.map eS)]) ∧ (∀ x, eE x = [.v (.int .i64 x.fr), .v (.int .i64 x.to)]) := ⟨fun _ => rfl, fun _ => rfl, fun _ => rfl, fun _ => rfl, fun _ => rfl, fun _ _ => rfl, fun _ => rfl⟩
def okB (b : UInt8) : Bool := decide (33 ≤ b.toNat ∧ b.toNat ≤ 126)
def bytesOk (s : ByteArray) : Bool := s.data.toList.all okB
/-- whether a text is a word. -/
def isWd (s : ByteArray) : Bool := bytesOk s && decide (1 ≤ s.size ∧ s.size ≤ 30)
def hash : ByteArray := ⟨#[35]⟩
def hat : ByteArray := ⟨#[94]⟩
def isMk (s : ByteArray) : Bool := decide (s = hash) || decide (s = hat)
theorem take_all_succ {l : List UInt8} {k : Nat} (h : k < l.length) (h1 : (l.take k).all okB = true) (h2 : okB l[k] = true) : (l.take (k + 1)).all okB = true := by
 rw [List.take_succ_eq_append_getElem h, List.all_append, h1]; simp [h2]
theorem bytesOk_bad {s : ByteArray} {k : Nat} (h : k < s.data.toList.length) (h2 : okB s.data.toList[k] = false) : bytesOk s = false := by
 unfold bytesOk
 rw [← Bool.not_eq_true, List.all_eq_true]
 intro hc
 have := hc _ (List.getElem_mem h)
 rw [h2] at this; cases this
theorem xE : type_of% (And.intro sxE encs) := And.intro sxE encs
theorem xR : type_of% (And.intro encs sxR) := And.intro encs sxR
theorem xK : type_of% (And.intro xR @kpLL_map) := And.intro xR @kpLL_map
end Go.Proofs.YtgcmppghjfidfaaGreatDoor
