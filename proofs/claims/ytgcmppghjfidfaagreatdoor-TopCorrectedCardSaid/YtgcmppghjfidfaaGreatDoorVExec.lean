/-
 The symbolic executor: what it computes of each operation and of each form of code, and the equations by which simp carries it out.
-/
import Derived.Test.YtgcmppghjfidfaaGreatDoorVCore
namespace Go.Vx
set_option linter.unusedSimpArgs false
open Go Go.RowKit

/-- A lock: simp does not look into what a later argument's type names. -/
structure Lk {α : Sort _} (a : α) : Type where

def InK : IntKind → Int → Prop
 | .i64, e => -9223372036854775808 ≤ e ∧ e ≤ 9223372036854775807
 | .u8, e => 0 ≤ e ∧ e ≤ 255
 | .i32, e => -2147483648 ≤ e ∧ e ≤ 2147483647
 | .u32, e => 0 ≤ e ∧ e ≤ 4294967295
 | .u64, e => 0 ≤ e ∧ e ≤ 18446744073709551615
 | k, e => k.wrap e = e

/-- What must hold, and what follows. -/
def Vc (p Q : Prop) (_ : Lk Q) : Prop := p ∧ Q
/-- A test that nobody knows. -/
def BrW (b : Bool) (A B : Prop) (_ : Lk (A, B)) : Prop := (b = true → A) ∧ (b = false → B)

def pass (v : SV) (st : St) (K : SV → St → Prop) (_ : Lk K) : Prop := K v st
def passQ (v : SV) (k : SV → Prop) (_ : Lk k) : Prop := k v

/-! ### lists by literal numbers -/
def dropN {α : Type} : Nat → List α → List α
 | 0, l => l
 | _ + 1, [] => []
 | n + 1, _ :: l => dropN n l
def takeN {α : Type} : Nat → List α → Option (List α)
 | 0, _ => some []
 | _ + 1, [] => none
 | n + 1, x :: l => (takeN n l).map (x :: ·)
def setN {α : Type} : List α → Nat → α → List α
 | [], _, _ => []
 | _ :: l, 0, y => y :: l
 | x :: l, n + 1, y => x :: setN l n y
/-- cells from 'off' on are replaced by these. -/
def putL {α : Type} : List α → Nat → List α → Option (List α)
 | l, 0, [] => some l
 | _ :: l, 0, y :: ys => (putL l 0 ys).map (y :: ·)
 | x :: l, n + 1, ys => (putL l n ys).map (x :: ·)
 | [], _, _ => none
def lenN {α : Type} : List α → Nat
 | [] => 0
 | _ :: l => lenN l + 1

def cellsOf : SV → Option (List SV)
 | .any => none
 | .tup _ => none
 | .arm => none
 | .ali .. => none
 | .bxa .. => none
 | .glo .. => none
 | .cap .. => none
 | .agg l => some l
 | .v (.agg cs) => some (cs.toList.map .v)
 | x => some [x]
def intsOf : List SV → Option (List Int)
 | [] => some []
 | .v (.int .i64 n) :: l => (intsOf l).map (n :: ·)
 | _ => none
def consO {α : Type} : Option α → Option (List α) → Option (List α)
 | some x, some l => some (x :: l)
 | _, _ => none
def oneV : Value → Bool
 | .agg _ => false
 | .tuple _ => false
 | _ => true
/-- a cell that fits one cell. -/
def oneS : SV → Bool
 | .any => false
 | .agg _ => false
 | .tup _ => false
 | .v (.agg _) => false
 | .v (.tuple _) => false
 | .arm => false
 | .ali .. => false
 | .bxa .. => false
 | .glo .. => false
 | _ => true
def onesS : List SV → Bool
 | [] => true
 | x :: l => oneS x && onesS l
/-- The data of a cell, if it names no own memory. -/
def rwD : Option Rw → Option D
 | some (.frz sz els) => some (.sl true sz els)
 | _ => none
def vD (x : Value) : Bool → Option D
 | true => some (.v x)
 | false => none
mutual
def toD (rw : List Rw) : SV → Option D
 | .v x => vD x (oneV x)
 | .sl b sz els => some (.sl b sz els)
 | .pt b cs => some (.pt b cs)
 | .row k => rwD (nth rw k)
 | .clo f l => (toDL rw l).map (.clo f ·)
 | _ => none
def toDL (rw : List Rw) : List SV → Option (List D)
 | [] => some []
 | x :: l => consO (toD rw x) (toDL rw l)
end

/-! ### quiet operations: one value, the state as it was -/
def pickX (c x y : SV) (k : SV → Prop) (_ : Lk (x, y, k)) : Prop :=
 match c with
 | .v (.bool b) => BrW b (passQ x k ⟨⟩) (passQ y k ⟨⟩) ⟨⟩
 | _ => False

def ibin (op : BinOp) (kd : IntKind) (a b : Int) (k : SV → Prop) (_ : Lk k) : Prop :=
 match op with
 | .add => Vc (InK kd (a + b)) (k (.v (.int kd (a + b)))) ⟨⟩
 | .sub => Vc (InK kd (a - b)) (k (.v (.int kd (a - b)))) ⟨⟩
 | .mul => Vc (InK kd (a * b)) (k (.v (.int kd (a * b)))) ⟨⟩
 | .quo => Vc (b ≠ 0 ∧ InK kd (a.tdiv b)) (k (.v (.int kd (a.tdiv b)))) ⟨⟩
 | .rem => Vc (b ≠ 0) (k (.v (.int kd (a.tmod b)))) ⟨⟩
 | .eql => k (.v (.bool (decide (a = b))))
 | .neq => k (.v (.bool (decide (a ≠ b))))
 | .lss => k (.v (.bool (decide (a < b))))
 | .leq => k (.v (.bool (decide (a ≤ b))))
 | .gtr => k (.v (.bool (decide (b < a))))
 | .geq => k (.v (.bool (decide (b ≤ a))))
 | .xor => Vc ((a = 0 ∨ a = 1) ∧ (b = 0 ∨ b = 1)) (k (.v (.int kd (if a = b then 0 else 1)))) ⟨⟩
 | _ => False

def aggX (ti : Option TI) (op : BinOp) (l l' : Option (List Int)) (k : SV → Prop) (_ : Lk k) : Prop :=
 match ti, op, l, l' with
 | some ⟨_, _, _, n⟩, .eql, some as, some bs => n ≠ 0 ∧ lenN as = n ∧ lenN bs = n ∧ k (.v (.bool (decide (as = bs))))
 | some ⟨_, _, _, n⟩, .neq, some as, some bs => n ≠ 0 ∧ lenN as = n ∧ lenN bs = n ∧ k (.v (.bool (decide (as ≠ bs))))
 | _, _, _, _ => False

def scsOf : List SV → Option (List Sc)
 | [] => some []
 | .v (.int .i64 n) :: l => (scsOf l).map (.i n :: ·)
 | .v (.string x) :: l => (scsOf l).map (.s x :: ·)
 | _ => none
def aggS (c : Nat) (op : BinOp) (l l' : Option (List Sc)) (k : SV → Prop) (_ : Lk k) : Prop :=
 match op, l, l' with
 | .eql, some as, some bs => shOk c as = true ∧ shOk c bs = true ∧ k (.v (.bool (decide (as = bs))))
 | .neq, some as, some bs => shOk c as = true ∧ shOk c bs = true ∧ k (.v (.bool (decide (as ≠ bs))))
 | _, _, _ => False
def agg2 (ti : Option TI) (op : BinOp) (l l' : List SV) (k : SV → Prop) (_ : Lk k) : Prop :=
 match ti with
 | some ⟨s, z, kd, n⟩ => if n < 1000000 then aggX (some ⟨s, z, kd, n⟩) op (intsOf l) (intsOf l') k ⟨⟩ else aggS (n - 1000000) op (scsOf l) (scsOf l') k ⟨⟩
 | none => False
def binX (ti : Option TI) (op : BinOp) (x y : SV) (k : SV → Prop) (_ : Lk k) : Prop :=
 match x, y with
 | .v (.int kd a), .v (.int kd' b) => if kd = kd' then ibin op kd a b k ⟨⟩ else False
 | .v (.string a), .v (.string b) =>
  match op with
  | .add => Vc (a.size + b.size ≤ 9223372036854775807) (k (.v (.string (a ++ b)))) ⟨⟩
  | .eql => k (.v (.bool (decide (a = b))))
  | .neq => k (.v (.bool (decide (a ≠ b))))
  | _ => False
 | .agg l, .agg l' => agg2 ti op l l' k ⟨⟩
 | _, _ => False

def unX (op : UnOp) (x : SV) (k : SV → Prop) (_ : Lk k) : Prop :=
 match op, x with
 | .not, .v (.bool b) => k (.v (.bool (!b)))
 | .neg, .v (.int kd a) => Vc (InK kd (-a)) (k (.v (.int kd (-a)))) ⟨⟩
 | _, _ => False

/-- A conversion between integer kinds. -/
def convX (s d : Option TI) (x : SV) (k : SV → Prop) (_ : Lk k) : Prop :=
 match s, d, x with
 | some _, some ⟨_, _, .int kd, _⟩, .v (.int _ n) => Vc (InK kd n) (k (.v (.int kd n))) ⟨⟩
 | some ⟨_, _, .str, _⟩, some ⟨_, _, .str, _⟩, .v (.string z) => k (.v (.string z))
 | some _, some ⟨_, _, .str, _⟩, .v (.int _ n) => k (.v (.string (Utf8.encode n)))
 | _, _, _ => False

def addOff : SV → Nat → SV
 | .box b o, n => .box b (o + n)
 | .pt b cs, n => .pt b (dropN n cs)
 | .relt b i s o, n => .relt b i s (o + n)
 | .v (.pointer (some a)), n => .v (.pointer (some (a.add n)))
 | _, _ => .any

def faP (y : SV) (k : SV → Prop) (_ : Lk k) : Prop :=
 match y with
 | .box b o => k (.box b o)
 | .pt b cs => k (.pt b cs)
 | .relt r i s o => k (.relt r i s o)
 | .v (.pointer (some a)) => k (.v (.pointer (some a)))
 | _ => False
def fa2 (x : SV) (f : Option (Nat × Nat)) (k : SV → Prop) (_ : Lk k) : Prop :=
 match f with
 | some (o, _) => faP (addOff x o) k ⟨⟩
 | none => False
def faX (ti : Option TI) (x : SV) (f : Nat) (k : SV → Prop) (_ : Lk k) : Prop :=
 match ti with
 | some ⟨_, _, .st fs, _⟩ => fa2 x (nth fs f) k ⟨⟩
 | _ => False

/-- An element of data: wants to be named. -/
def IxW (els : List (List D)) (j : Int) (k : List D → Prop) (_ : Lk k) : Prop := 0 ≤ j ∧ ∃ e, els[j.toNat]? = some e ∧ k e
def ptK (b : Bool) (k : SV → Prop) (e : List D) : Prop := k (.pt b e)
def iaR (r : Option Rw) (n es : Nat) (j : Int) (k : SV → Prop) (_ : Lk k) : Prop :=
 match r with
 | some (.own _ s els) => if s = es then Vc (0 ≤ j ∧ j < (els.length : Int)) (k (.relt n j es 0)) ⟨⟩ else False
 | _ => False

def iaX (ti : Option TI) (rw : List Rw) (x i : SV) (k : SV → Prop) (_ : Lk (rw, k)) : Prop :=
 match ti, x, i with
 | some ⟨_, _, .sl _ es _ _, _⟩, .sl b sz els, .v (.int _ j) => if sz = es then IxW els j (ptK b k) ⟨⟩ else False
 | some ⟨_, _, .sl _ es _ _, _⟩, .row r, .v (.int _ j) =>
  iaR (nth rw r) r es j k ⟨⟩
 | some ⟨_, _, .arr n _ es, _⟩, .box b o, .v (.int _ j) => Vc (0 ≤ j ∧ j < (n : Int)) (passQ (.box b (o + j.toNat * es)) k ⟨⟩) ⟨⟩
 | some ⟨_, _, .arr n _ es, _⟩, .pt b cs, .v (.int _ j) => Vc (0 ≤ j ∧ j < (n : Int)) (passQ (.pt b (dropN (j.toNat * es) cs)) k ⟨⟩) ⟨⟩
 | _, _, _ => False

/-- What a load reads. -/
inductive Fp where
 | no
 | imm
 | box (k : Nat)
 | row (r : Nat)
def fpV : SV → Fp
 | .box k _ => .box k
 | .relt r _ _ _ => .row r
 | _ => .imm
/-- The block that is read. -/
def FpOk (g : Gh) : Fp → Nat → Prop
 | .no, _ => True
 | .imm, B => ∃ f o, g.μ f B = some o
 | .box k, B => B = g.ρ k ∧ k < g.nb
 | .row r, B => ob (g.σ r) = some B ∧ r < g.nr

def loadB (agg : Bool) (n : Nat) (rw : List Rw) (cs : Option (List SV)) (k : SV → Prop) (_ : Lk (rw, k)) : Prop :=
 match agg, cs with
 | true, some cs => k (.agg cs)
 | false, some [c] => n = 1 ∧ passQ (norm rw c) k ⟨⟩
 | _, _ => False
/-- of data. -/
def loadP (agg : Bool) (cs : Option (List D)) (k : SV → Prop) (_ : Lk k) : Prop :=
 match agg, cs with
 | true, some (c :: cs) => k (.agg (ofDL (c :: cs)))
 | false, some [c] => k (ofD c)
 | _, _ => False
/-- of an element of an own row. -/
def elK (agg : Bool) (n off : Nat) (k : SV → Prop) (e : List D) : Prop := loadP agg (takeN n (dropN off e)) k ⟨⟩
def loadR (agg : Bool) (n : Nat) (r : Option Rw) (i : Int) (s off : Nat) (k : SV → Prop) (_ : Lk k) : Prop :=
 match r with
 | some (.own _ s' els) => if s' = s then IxW els i (elK agg n off k) ⟨⟩ else False
 | _ => False

def bc2 (off n : Nat) : Option (Option Bx) → Option (List SV)
 | some (some x) => takeN n (dropN off x.cells)
 | _ => none
def bcells (bx : List (Option Bx)) (b off n : Nat) : Option (List SV) := bc2 off n (nth bx b)

open Classical in
/-- the value of a row, by the alias. -/
noncomputable def derA (j : Nat) (u : Value) : SV → SV
 | .v (.slice (some a) n c) => if u = .slice (some a) n c then .row j else .v (.slice (some a) n c)
 | x => x
/-- the address of a box, by what is told of its block. -/
def derB (k b : Nat) : SV → SV
 | .v (.pointer (some ⟨c, o, none⟩)) => if c = b then .box k o else .v (.pointer (some ⟨c, o, none⟩))
 | x => x
noncomputable def derE : SV → SV → SV
 | .ali j u, x => derA j u x
 | .bxa k b, x => derB k b x
 | _, x => x
def derK (e : SV) (k : SV → Prop) (v : SV) : Prop := k (derE e v)
def loadX (ti : Option TI) (x : SV) (st : St) (k : SV → Prop) (_ : Lk (st, k)) : Prop :=
 match ti, x with
 | some ti, .box b off => loadB ti.kd.agg ti.size st.rw (bcells st.bx b off ti.size) k ⟨⟩
 | some ti, .pt _ cs => loadP ti.kd.agg (takeN ti.size cs) k ⟨⟩
 | some ti, .relt r i s o => loadR ti.kd.agg ti.size (nth st.rw r) i s o (derK (look st.tm 1000000) k) ⟨⟩
 | _, _ => False

def lenR (r : Option Rw) (k : SV → Prop) (_ : Lk k) : Prop :=
 match r with
 | some (.own _ s els) => if s = 0 then False else k (.v (.int .i64 els.length))
 | _ => False
def lenX (ti : Option TI) (rw : List Rw) (x : SV) (k : SV → Prop) (_ : Lk (rw, k)) : Prop :=
 match ti, x with
 | some ⟨_, _, .sl .., _⟩, .v (.slice _ n _) => k (.v (.int .i64 n))
 | some ⟨_, _, .sl .., _⟩, .sl _ _ els => k (.v (.int .i64 els.length))
 | some ⟨_, _, .str, _⟩, .v (.string s) => k (.v (.int .i64 s.size))
 | some ⟨_, _, .sl .., _⟩, .row r => lenR (nth rw r) k ⟨⟩
 | _, _ => False

def ex2 (x : Option SV) (k : SV → Prop) (_ : Lk k) : Prop :=
 match x with
 | some y => k y
 | none => False
def exX (x : SV) (i : Nat) (k : SV → Prop) (_ : Lk k) : Prop :=
 match x with
 | .tup l => ex2 (nth l i) k ⟨⟩
 | _ => False

/-- a field of a struct of ints and strings. -/
def fld3 (c : Option SV) (k : SV → Prop) (_ : Lk k) : Prop :=
 match c with
 | some c => oneS c = true ∧ k c
 | none => False
def fld2 (f : Option (Nat × Nat)) (l : List SV) (k : SV → Prop) (_ : Lk k) : Prop :=
 match f with
 | some (o, 1) => fld3 (nth l o) k ⟨⟩
 | _ => False
def fldX (ti : Option TI) (x : SV) (f : Nat) (k : SV → Prop) (_ : Lk k) : Prop :=
 match ti, x with
 | some ⟨_, _, .st fs, n⟩, .agg l => n ≠ 0 ∧ fld2 (nth fs f) l k ⟨⟩
 | _, _ => False
def nilX (x : SV) (k : SV → Prop) (_ : Lk k) : Prop :=
 match x with
 | .box b o => k (.box b o)
 | .pt b cs => k (.pt b cs)
 | .relt r i s o => k (.relt r i s o)
 | .clo f l => k (.clo f l)
 | .v (.pointer (some a)) => k (.v (.pointer (some a)))
 | _ => False

/-- One part of a struct literal. -/
def fil1 (cs : List SV) (f : Option (Nat × Nat)) (x : Option (List SV)) : Option (List SV) :=
 match f, x with
 | some (o, n), some xs => if lenN xs = n then putL cs o xs else none
 | _, _ => none
def fillS (fs : List (Nat × Nat)) : Option (List SV) → List (Nat × SV) → Option (List SV)
 | none, _ => none
 | some cs, [] => some cs
 | some cs, (i, x) :: ps => fillS fs (fil1 cs (nth fs i) (cellsOf x)) ps

def fillA (es : Nat) : Option (List SV) → List (Nat × SV) → Option (List SV)
 | none, _ => none
 | some cs, [] => some cs
 | some cs, (i, x) :: ps => fillA es (fil1 cs (some (i * es, es)) (cellsOf x)) ps
def bld2 (cs : Option (List SV)) (k : SV → Prop) (_ : Lk k) : Prop :=
 match cs with
 | some cs => k (.agg cs)
 | none => False
def buildX (ti : Option TI) (ps : List (Nat × SV)) (k : SV → Prop) (_ : Lk k) : Prop :=
 match ti with
 | some ⟨_, z, .st fs, _⟩ => bld2 (fillS fs (some (z.map ofV)) ps) k ⟨⟩
 | some ⟨_, z, .arr _ _ es, _⟩ => bld2 (fillA es (some (z.map ofV)) ps) k ⟨⟩
 | _ => False

def mmX (isMax : Bool) (l : List SV) (k : SV → Prop) (_ : Lk k) : Prop :=
 match isMax, l with
 | false, [.v (.int kd a), .v (.int _ b)] => k (.v (.int kd (min a b)))
 | true, [.v (.int kd a), .v (.int _ b)] => k (.v (.int kd (max a b)))
 | false, [.v (.int kd a), .v (.int _ b), .v (.int _ c)] => k (.v (.int kd (min (min a b) c)))
 | _, _ => False

/-- nil as data. -/
def nilSl : SV → SV
 | .v (.slice none 0 0) => .sl true 1 []
 | x => x
def sliX (ti : Option TI) (x : SV) (lo hi : Option SV) (k : SV → Prop) (_ : Lk k) : Prop :=
 match ti, x, lo, hi with
 | some ⟨_, _, .sl _ es _ _, _⟩, .sl b sz els, some (.v (.int _ l)), none => if sz = es then Vc (0 ≤ l ∧ l ≤ els.length) (k (.sl b sz (els.drop l.toNat))) ⟨⟩ else False
 | some ⟨_, _, .sl _ es _ _, _⟩, .sl b sz els, none, some (.v (.int _ h)) => if sz = es then Vc (0 ≤ h ∧ h ≤ els.length) (k (.sl b sz (els.take h.toNat))) ⟨⟩ else False
 | some ⟨_, _, .sl _ es _ _, _⟩, .sl b sz els, some (.v (.int _ l)), some (.v (.int _ h)) => if sz = es then Vc (0 ≤ l ∧ l ≤ h ∧ h ≤ els.length) (k (.sl b sz ((els.drop l.toNat).take (h.toNat - l.toNat)))) ⟨⟩ else False
 | some ⟨_, _, .sl .., _⟩, .v (.slice none 0 0), some (.v (.int _ l)), none => Vc (0 ≤ l ∧ l ≤ 0) (k (.v (.slice none 0 0))) ⟨⟩
 | some ⟨_, _, .sl .., _⟩, .v (.slice none 0 0), none, some (.v (.int _ h)) => Vc (0 ≤ h ∧ h ≤ 0) (k (.v (.slice none 0 0))) ⟨⟩
 | some ⟨_, _, .sl .., _⟩, .v (.slice none 0 0), some (.v (.int _ l)), some (.v (.int _ h)) => Vc (0 ≤ l ∧ l ≤ h ∧ h ≤ 0) (k (.v (.slice none 0 0))) ⟨⟩
 | some ⟨_, _, .str, _⟩, .v (.string s), some (.v (.int _ l)), none => Vc (0 ≤ l ∧ l ≤ s.size) (k (.v (.string (s.extract l.toNat s.size)))) ⟨⟩
 | some ⟨_, _, .str, _⟩, .v (.string s), none, some (.v (.int _ h)) => Vc (0 ≤ h ∧ h ≤ s.size) (k (.v (.string (s.extract 0 h.toNat)))) ⟨⟩
 | some ⟨_, _, .str, _⟩, .v (.string s), some (.v (.int _ l)), some (.v (.int _ h)) => Vc (0 ≤ l ∧ l ≤ h ∧ h ≤ s.size) (k (.v (.string (s.extract l.toNat h.toNat)))) ⟨⟩
 | _, _, _, _ => False

/-- a slice cut off, without spare places. -/
def tcQ (ti : Option TI) (x h m : SV) (k : SV → Prop) (_ : Lk k) : Prop :=
 match ti, x, h, m with
 | some ⟨_, _, .sl _ es _ _, _⟩, .sl b sz els, .v (.int _ n), .v (.int _ n') => if sz = es then Vc (n' = n ∧ 0 ≤ n ∧ n ≤ els.length) (k (.cap b sz (els.take n.toNat))) ⟨⟩ else False
 | _, _, _, _ => False
/-- a part of a slice, without the spare places behind it. -/
def tc4 (ti : Option TI) (x l h m : SV) (k : SV → Prop) (_ : Lk k) : Prop :=
 match ti, x, l, h, m with
 | some ⟨_, _, .sl _ es _ _, _⟩, .sl b sz els, .v (.int _ lo), .v (.int _ n), .v (.int _ n') => if sz = es then Vc (0 ≤ lo ∧ lo ≤ n ∧ n ≤ n' ∧ n' ≤ els.length) (k (.sl b sz ((els.drop lo.toNat).take (n.toNat - lo.toNat)))) ⟨⟩ else False
 | _, _, _, _, _ => False
/-- an interface value and nil. -/
def ifcX (op : BinOp) (x : SV) (k : SV → Prop) (_ : Lk k) : Prop :=
 match op, x with
 | .eql, .v .nilIface => k (.v (.bool true))
 | .neq, .v .nilIface => k (.v (.bool false))
 | .eql, .v (.iface _ _) => k (.v (.bool false))
 | .neq, .v (.iface _ _) => k (.v (.bool true))
 | _, _ => False
def bin3Q (y : Operand) (ti : Option TI) (op : BinOp) (x v : SV) (k : SV → Prop) (_ : Lk k) : Prop :=
 match ti, y with
 | some ⟨_, _, .ifc, _⟩, .const .nilIface => ifcX op x k ⟨⟩
 | ti, _ => binX ti op x v k ⟨⟩
/-! own rows that stay their own: their values. -/
mutual
def holdV (k : Nat) (u : Value) : SV → SV
 | .row j => if j = k then .v u else .row j
 | .agg l => .agg (holdL k u l)
 | x => x
def holdL (k : Nat) (u : Value) : List SV → List SV
 | [] => []
 | x :: l => holdV k u x :: holdL k u l
end
mutual
def holdB (k b : Nat) : SV → SV
 | .box j o => if j = k then .v (.pointer (some ⟨b, o, none⟩)) else .box j o
 | .agg l => .agg (holdBL k b l)
 | x => x
def holdBL (k b : Nat) : List SV → List SV
 | [] => []
 | x :: l => holdB k b x :: holdBL k b l
end
def hevE : SV → SV → SV
 | .ali k u, x => holdV k u x
 | .bxa k b, x => holdB k b x
 | _, x => x
/-- an interface value is made of a value; it is asked for its type. -/
def mkiX (ti : Option TI) (t : TypeId) (x : SV) (k : SV → Prop) (_ : Lk k) : Prop :=
 match ti, x with
 | some ⟨_, _, kd, _⟩, .v w => kd.isI = false ∧ k (.v (.iface t w))
 | _, _ => False
def taV (ok : Bool) (v : SV) : SV := if ok then .tup [v, .v (.bool true)] else v
noncomputable def tasX (ti : Option TI) (e x : SV) (a : TypeId) (ok : Bool) (k : SV → Prop) (_ : Lk k) : Prop :=
 match ti, x with
 | some ⟨_, _, kd, _⟩, .v (.iface t w) => kd.isI = false ∧ (if t = a then k (taV ok (derE e (.v w))) else ok = true ∧ k (.tup [.any, .v (.bool false)]))
 | _, _ => False
/-- What a quiet operation computes. -/
def qX (T : Tab) (op : Op) (st : St) (k : SV → Prop) (_ : Lk (T, op, st, k)) : Prop :=
 match op with
 | .move x => passQ (st.ev x) k ⟨⟩
 | .assign x => passQ (st.ev x) k ⟨⟩
 | .pick c x y => pickX (st.ev c) (st.ev x) (st.ev y) k ⟨⟩
 | .binOp op t x y _ => bin3Q y (tlook T t) op (st.ev x) (st.ev y) k ⟨⟩
 | .unOp op _ x => unX op (st.ev x) k ⟨⟩
 | .convert s d x => convX (tlook T s) (tlook T d) (st.ev x) k ⟨⟩
 | .fieldAddr t x f => faX (tlook T t) (st.ev x) f k ⟨⟩
 | .indexAddr t x i => iaX (tlook T t) st.rw (st.ev x) (st.ev i) k ⟨⟩
 | .load t x => loadX (tlook T t) (st.ev x) st k ⟨⟩
 | .slice t x lo hi none => sliX (tlook T t) (st.ev x) (lo.map st.ev) (hi.map st.ev) k ⟨⟩
 | .slice t x none (some h) (some m) => tcQ (tlook T t) (st.ev x) (st.ev h) (st.ev m) k ⟨⟩
 | .slice t x (some l) (some h) (some m) => tc4 (tlook T t) (st.ev x) (st.ev l) (st.ev h) (st.ev m) k ⟨⟩
 | .extract x i => exX (st.ev x) i k ⟨⟩
 | .nilCheck x => nilX (st.ev x) k ⟨⟩
 | .makeInterface t x => mkiX (tlook T t) t (hevE (look st.tm 1000000) (st.ev x)) k ⟨⟩
 | .typeAssert x _ a ok => tasX (tlook T a) (look st.tm 1000000) (st.ev x) a ok k ⟨⟩
 | .build t ps => buildX (tlook T t) (ps.toList.map fun p => (p.1, st.ev p.2)) k ⟨⟩
 | .makeFunc (.func f) first cs => first = #[] ∧ passQ (.clo f (cs.toList.map st.ev)) k ⟨⟩
 | .call { callee := .builtin .len, args := ⟨[x]⟩, argTypes := ⟨[t]⟩ } => lenX (tlook T t) st.rw (st.ev x) k ⟨⟩
 | .call { callee := .builtin .min, args := ⟨l⟩, .. } => mmX false (l.map st.ev) k ⟨⟩
 | .call { callee := .builtin .max, args := ⟨l⟩, .. } => mmX true (l.map st.ev) k ⟨⟩
 | .field t x f => fldX (tlook T t) (st.ev x) f k ⟨⟩
 | _ => False

/-! ### operations that make or write memory, or whose answer is open -/
/-- own rows that are named here. -/
def rwI (r : Nat) (x : Option Rw) (l : List Nat) : List Nat :=
 match x with
 | some (.own ..) => r :: l
 | _ => l
def rowsIn (rw : List Rw) : List SV → List Nat
 | [] => []
 | .row r :: l => rwI r (nth rw r) (rowsIn rw l)
 | .agg m :: l => rowsIn rw m ++ rowsIn rw l
 | .ali k _ :: l => rwI k (nth rw k) (rowsIn rw l)
 | _ :: l => rowsIn rw l

/-- Own rows become immutable. -/
def frz2 (x : Option Rw) (r : Nat) (st : St) : St :=
 match x with
 | some (.own _ size els) => if size = 0 then st else { st with rw := setN st.rw r (.frz size els) }
 | _ => st
def frzX (rs : List Nat) (st : St) : St :=
 match rs with
 | [] => st
 | r :: rs => frzX rs (frz2 (nth st.rw r) r st)

def newBox (st : St) (t : TypeId) (cs : List SV) : St := { st with bx := st.bx ++ [some ⟨t, cs⟩] }
def newRow (st : St) (e size : Nat) (els : List (List D)) : St := { st with rw := st.rw ++ [.own e size els] }

def allocX (ti : Option TI) (t : TypeId) (st : St) (K : SV → St → Prop) (_ : Lk (st, K)) : Prop :=
 match ti with
 | some ti => pass (.box (lenN st.bx) 0) (newBox st t (ti.zero.map ofV)) K ⟨⟩
 | none => False

def box2 (t : TypeId) (x : Option (List SV)) (st : St) (K : SV → St → Prop) (_ : Lk (st, K)) : Prop :=
 match x with
 | some cs => pass (.box (lenN st.bx) 0) (newBox st t cs) K ⟨⟩
 | none => False
def boxX (t : TypeId) (x : SV) (st : St) (K : SV → St → Prop) (_ : Lk (st, K)) : Prop := box2 t (cellsOf x) st K ⟨⟩

/-- 'e' with these cells from 'off' on. -/
def modE {α : Type} (e : List α) (off : Nat) (vs : List α) : List α := e.take off ++ vs ++ e.drop (off + vs.length)

def stB2 (ti : TI) (b : Nat) (t : TypeId) (cells : Option (List SV)) (cs : List SV) (st : St) (K : SV → St → Prop) (_ : Lk (st, K)) : Prop :=
 match cells with
 | some cells => lenN cs = ti.size ∧ onesS cs = true ∧ pass .any { st with bx := setN st.bx b (some ⟨t, cells⟩) } K ⟨⟩
 | none => False
def stB (ti : TI) (b off : Nat) (bx : Option (Option Bx)) (cs : Option (List SV)) (st : St) (K : SV → St → Prop) (_ : Lk (st, K)) : Prop :=
 match bx, cs with
 | some (some ⟨t, c⟩), some cs => stB2 ti b t (putL c off cs) cs st K ⟨⟩
 | _, _ => False
def toDO (rw : List Rw) : Option (List SV) → Option (List D)
 | some cs => toDL rw cs
 | none => none
def stR2 (ti : TI) (r : Nat) (i : Int) (size off : Nat) (e : TypeId) (els : List (List D)) (vs : Option (List D)) (st : St) (K : SV → St → Prop) (_ : Lk (els, st, K)) : Prop :=
 match vs with
 | some vs => Vc (i.toNat < els.length) (lenN vs = ti.size ∧ off + ti.size ≤ size ∧ pass .any { st with rw := setN st.rw r (.own e size (els.modify i.toNat (modE · off vs))) } K ⟨⟩) ⟨⟩
 | none => False
def stR (ti : TI) (r : Nat) (i : Int) (size off : Nat) (x : Option Rw) (cs : Option (List D)) (st : St) (K : SV → St → Prop) (_ : Lk (st, K)) : Prop :=
 match x with
 | some (.own e s els) => if s = size then stR2 ti r i size off e els cs st K ⟨⟩ else False
 | _ => False
def hev (st : St) (y : Operand) : SV := hevE (look st.tm 1000000) (st.ev y)
mutual
def rowOf : SV → Option Nat
 | .row k => some k
 | .agg l => rowOfL l
 | _ => none
def rowOfL : List SV → Option Nat
 | [] => none
 | x :: l => (rowOf x).or (rowOfL l)
end
def arm3 (k : Nat) (x : Option Rw) (st : St) (K : St → Prop) (_ : Lk (st, K)) : Prop :=
 match x with
 | some (.own _ s els) => if s = 0 then False else Vc (0 < els.length) (∀ (ad : Addr) (n c : Nat), K { st with tm := (1000000, .ali k (.slice (some ad) n c)) :: st.tm }) ⟨⟩
 | _ => K st
def arm2 (k : Option Nat) (st : St) (K : St → Prop) (_ : Lk (st, K)) : Prop :=
 match k with
 | some k => arm3 k (nth st.rw k) st K ⟨⟩
 | none => K st
/-- if so told: the own row that is stored gets an alias. -/
def armX (e y : SV) (st : St) (K : St → Prop) (_ : Lk (st, K)) : Prop :=
 match e with
 | .arm => arm2 (rowOf y) st K ⟨⟩
 | _ => K st
/-- into an element of an own row: rows in what is stored become immutable first. -/
def stR0 (ti : TI) (r : Nat) (i : Int) (size off : Nat) (y : Operand) (K : SV → St → Prop) (st : St) (_ : Lk K) : Prop :=
 stR ti r i size off (nth st.rw r) (toDO st.rw (cellsOf (hev st y))) st K ⟨⟩
def stA (ti : TI) (r : Nat) (i : Int) (size off : Nat) (y : Operand) (K : SV → St → Prop) (st : St) : Prop := stR0 ti r i size off y K (frzX (rowsIn st.rw [hev st y]) st) ⟨⟩
def storeX (ti : Option TI) (x : SV) (y : Operand) (st : St) (K : SV → St → Prop) (_ : Lk (st, K)) : Prop :=
 match ti, x with
 | some ti, .box b off => stB ti b off (nth st.bx b) (cellsOf (st.ev y)) st K ⟨⟩
 | some ti, .relt r i size off => armX (look st.tm 1000000) (st.ev y) st (stA ti r i size off y K) ⟨⟩
 | _, _ => False

/-- The elements of a literal: part number i is the i-th. -/
def el3 (es : Nat) (vs : Option (List D)) (els : Option (List (List D))) : Option (List (List D)) :=
 match vs, els with
 | some vs, some els => if lenN vs = es then some (vs :: els) else none
 | _, _ => none
def elsOf (rw : List Rw) (es : Nat) : Nat → List (Nat × SV) → Option (List (List D))
 | _, [] => some []
 | i, (j, x) :: l => if i = j then el3 es (toDO rw (cellsOf x)) (elsOf rw es (i + 1) l) else none

def bs2 (e es n : Nat) (els : Option (List (List D))) (st : St) (K : SV → St → Prop) (_ : Lk (st, K)) : Prop :=
 match els with
 | some els => lenN els = n ∧ n * es ≤ 16777216 ∧ pass (.row (lenN st.rw)) (newRow st e es els) K ⟨⟩
 | none => False
def bsX (ti : Option TI) (n : Nat) (ps : List (Nat × SV)) (K : SV → St → Prop) (st : St) (_ : Lk (st, K)) : Prop :=
 match ti with
 | some ⟨_, _, .sl e es _ _, _⟩ => bs2 e es n (elsOf st.rw es 0 ps) st K ⟨⟩
 | _ => False
def conO (z : List D) : Option (List (List D)) → Option (List (List D))
 | some l => some (z :: l)
 | none => none
/-- a literal whose element 0 is not told. -/
def bsG (ti : Option TI) (n : Nat) (ps : List (Nat × SV)) (st : St) (K : SV → St → Prop) (_ : Lk (st, K)) : Prop :=
 match ti with
 | some ⟨_, _, .sl e es _ ez, _⟩ => bs2 e es n (conO (ez.map D.v) (elsOf st.rw es 1 ps)) st K ⟨⟩
 | _ => False
/-- after rows were frozen: the parts are looked at anew. -/
def bsK (ti : Option TI) (n : Nat) (ps : List (Nat × Operand)) (K : SV → St → Prop) (st : St) (_ : Lk K) : Prop := bsX ti n (ps.map fun p => (p.1, hev st p.2)) K st ⟨⟩
def bsA (ti : Option TI) (n : Nat) (ps : List (Nat × Operand)) (K : SV → St → Prop) (st : St) : Prop := bsK ti n ps K (frzX (rowsIn st.rw (ps.map fun p => hev st p.2)) st) ⟨⟩

def mkX (ti : Option TI) (l c : SV) (st : St) (K : SV → St → Prop) (_ : Lk (st, K)) : Prop :=
 match ti, l, c with
 | some ⟨_, _, .sl e es eb ez, _⟩, .v (.int _ a), .v (.int _ b) =>
  Vc (0 ≤ a ∧ a ≤ b ∧ (eb : Int) * b ≤ 281474976710656) (pass (.row (lenN st.rw)) (newRow st e es (List.replicate a.toNat (ez.map D.v))) K ⟨⟩) ⟨⟩
 | _, _, _ => False

def appK (e es eb : Nat) (els1 : List (List D)) (r : Option Nat) (st : St) (K : SV → St → Prop) (els2 : List (List D)) : Prop :=
 match r with
 | none => Vc ((els1.length + els2.length) * eb ≤ 140737488355328) (pass (.row (lenN st.rw)) { st with rw := st.rw ++ [.own e es (els1 ++ els2)] } K ⟨⟩) ⟨⟩
 | some r => Vc ((els1.length + els2.length) * eb ≤ 140737488355328) (pass (.row (lenN st.rw)) { st with rw := setN st.rw r .gone ++ [.own e es (els1 ++ els2)] } K ⟨⟩) ⟨⟩

def ap3 (x : Option Rw) (es : Nat) (k : List (List D) → Prop) (_ : Lk k) : Prop :=
 match x with
 | some (.own _ s els) => if s = es then k els else False
 | _ => False
def app2 (st : St) (es : Nat) (y : SV) (k : List (List D) → Prop) (_ : Lk (st, k)) : Prop :=
 match y with
 | .row r => ap3 (nth st.rw r) es k ⟨⟩
 | .sl _ s els => if s = es then k els else False
 | .v (.slice none 0 0) => k []
 | _ => False
def appR (e es eb : Nat) (r : Nat) (x : Option Rw) (y : SV) (st : St) (K : SV → St → Prop) (_ : Lk (st, K)) : Prop :=
 match x with
 | some (.own e' s els) => if e = e' ∧ s = es then app2 st es y (appK e es eb els (some r) st K) ⟨⟩ else False
 | _ => False
def tcK (e es eb : Nat) (els1 : List (List D)) (st : St) (K : SV → St → Prop) (els2 : List (List D)) : Prop :=
 Vc (0 < els2.length ∧ (els1.length + els2.length) * eb ≤ 140737488355328) (pass (.row (lenN st.rw)) { st with rw := st.rw ++ [.own e es (els1 ++ els2)] } K ⟨⟩) ⟨⟩
def appX (ti : Option TI) (x y : SV) (st : St) (K : SV → St → Prop) (_ : Lk (st, K)) : Prop :=
 match ti, x with
 | some ⟨_, _, .sl e es eb _, _⟩, .v (.slice none 0 0) => app2 st es y (appK e es eb [] none st K) ⟨⟩
 | some ⟨_, _, .sl e es eb _, _⟩, .row r => appR e es eb r (nth st.rw r) y st K ⟨⟩
 | some ⟨_, _, .sl e es eb _, _⟩, .cap _ s els => if s = es then app2 st es y (tcK e es eb els st K) ⟨⟩ else False
 | _, _ => False

/-- append(nil, make(..)...): so many zero values. -/
def apzX (ti ti' : Option TI) (x y : SV) (st : St) (K : SV → St → Prop) (_ : Lk (st, K)) : Prop :=
 match ti, ti', x, y with
 | some ⟨_, _, .sl e es eb ez, _⟩, some ⟨_, _, .int _, _⟩, .v (.slice none 0 0), .v (.int _ n) => Vc (0 < n ∧ n * eb ≤ 140737488355328) (pass (.row (lenN st.rw)) (newRow st e es (List.replicate n.toNat (ez.map D.v))) K ⟨⟩) ⟨⟩
 | _, _, _, _ => False
/-- An own row cut off. -/
def trX (ti : Option TI) (r : Nat) (x : Option Rw) (hi : Option SV) (st : St) (K : SV → St → Prop) (_ : Lk (st, K)) : Prop :=
 match ti, x, hi with
 | some ⟨_, _, .sl e es _ _, _⟩, some (.own e' s els), some (.v (.int _ h)) =>
  if e = e' ∧ s = es then Vc (0 ≤ h ∧ h ≤ (els.length : Int)) (pass (.row (lenN st.rw)) { st with rw := setN st.rw r .gone ++ [.own e es (els.take h.toNat)] } K ⟨⟩) ⟨⟩ else False
 | _, _, _ => False
def stK (K : SV → St → Prop) (st : St) (v : SV) : Prop := K v st
/-- a part of an own row: it becomes immutable. -/
def slR (ti : Option TI) (x : Operand) (lo hi : Option Operand) (K : SV → St → Prop) (st : St) (_ : Lk K) : Prop :=
 sliX ti (st.ev x) (lo.map st.ev) (hi.map st.ev) (stK K st) ⟨⟩
def slcX (ti : Option TI) (y : SV) (x : Operand) (lo hi : Option Operand) (st : St) (K : SV → St → Prop) (_ : Lk (st, K)) : Prop :=
 match y, lo with
 | .row r, none => trX ti r (nth st.rw r) (hi.map st.ev) st K ⟨⟩
 | .row r, some l => slR ti x (some l) hi K (frzX [r] st) ⟨⟩
 | y, lo => sliX ti y (lo.map st.ev) (hi.map st.ev) (stK K st) ⟨⟩

def tcR (ti : Option TI) (x h m : Operand) (K : SV → St → Prop) (st : St) (_ : Lk K) : Prop :=
 tcQ ti (st.ev x) (st.ev h) (st.ev m) (stK K st) ⟨⟩
def tcC (ti : Option TI) (y : SV) (x h m : Operand) (st : St) (K : SV → St → Prop) (_ : Lk (st, K)) : Prop :=
 match y with
 | .row r => tcR ti x h m K (frzX [r] st) ⟨⟩
 | y => tcQ ti y (st.ev h) (st.ev m) (stK K st) ⟨⟩
/-- a whole array as a slice: its cells in parts of 'es'. -/
def chu2 (x : Option (List D)) (r : Option (List (List D))) : Option (List (List D)) :=
 match x, r with
 | some e, some l => some (e :: l)
 | _, _ => none
def chuO (es : Nat) : Nat → List D → Option (List (List D))
 | 0, _ => some []
 | n + 1, ds => chu2 (takeN es ds) (chuO es n (dropN es ds))
def subV (k : Nat) (ds : List D) : SV → SV
 | .box j o => if j = k then .pt true (dropN o ds) else .box j o
 | x => x
def subT (k : Nat) (ds : List D) : List (Nat × SV) → List (Nat × SV)
 | [] => []
 | (t, x) :: l => (t, subV k ds x) :: subT k ds l
def pinF (p : Pin) : Prop := p.ho.fr = none ∧ p.np = fun _ => false
def slP2 (b : Bool) (es : Nat) (els : Option (List (List D))) (k : SV → Prop) (_ : Lk k) : Prop :=
 match els with
 | some els => k (.sl b es els)
 | none => False
/-- a whole array of data. -/
def slP (ti : Option TI) (b : Bool) (cs : List D) (k : SV → Prop) (_ : Lk k) : Prop :=
 match ti with
 | some ⟨_, _, .arr n _ es, _⟩ => slP2 b es (chuO es n cs) k ⟨⟩
 | _ => False
def slB3 (k es : Nat) (ds : List D) (els : Option (List (List D))) (st : St) (K : SV → St → Prop) (_ : Lk (st, K)) : Prop :=
 match els with
 | some els => pass (.sl true es els) { st with bx := setN st.bx k none, tm := subT k ds st.tm } K ⟨⟩
 | none => False
def slB2 (n es k : Nat) (ds : Option (List D)) (st : St) (K : SV → St → Prop) (_ : Lk (st, K)) : Prop :=
 match ds with
 | some ds => slB3 k es ds (chuO es n ds) st K ⟨⟩
 | none => False
/-- a whole own array: its box becomes immutable. -/
def slB (p : Pin) (ti : Option TI) (k : Nat) (b : Option (Option Bx)) (st : St) (K : SV → St → Prop) (_ : Lk (st, K)) : Prop :=
 match ti, b with
 | some ⟨_, _, .arr n _ es, _⟩, some (some b) => pinF p ∧ slB2 n es k (toDL st.rw b.cells) st K ⟨⟩
 | _, _ => False
def slcY (p : Pin) (ti : Option TI) (y : SV) (x : Operand) (lo hi : Option Operand) (st : St) (K : SV → St → Prop) (_ : Lk (st, K)) : Prop :=
 match y, lo, hi with
 | .box k 0, none, none => slB p ti k (nth st.bx k) st K ⟨⟩
 | .pt b cs, none, none => slP ti b cs (stK K st) ⟨⟩
 | y, lo, hi => slcX ti y x lo hi st K ⟨⟩

/-- a slice and nil. -/
def nilC (ti : Option TI) (op : BinOp) (els : List (List D)) (k : Bool → Prop) (_ : Lk k) : Prop :=
 match ti, op with
 | some ⟨_, _, .sl .., _⟩, .eql => ∀ z : Bool, (z = true → els = []) → k z
 | some ⟨_, _, .sl .., _⟩, .neq => ∀ z : Bool, (z = false → els = []) → k z
 | _, _ => False
def bK (st : St) (K : SV → St → Prop) (b : Bool) : Prop := K (.v (.bool b)) st
def nilR (ti : Option TI) (op : BinOp) (r : Option Rw) (k : Bool → Prop) (_ : Lk k) : Prop :=
 match r with
 | some (.own _ s els) => if s = 0 then False else nilC ti op els k ⟨⟩
 | _ => False
def bin2X (ti : Option TI) (op : BinOp) (x y : SV) (st : St) (K : SV → St → Prop) (_ : Lk (st, K)) : Prop :=
 match x, y with
 | .sl _ _ els, .v (.slice none 0 0) => nilC ti op els (bK st K) ⟨⟩
 | .row r, .v (.slice none 0 0) => nilR ti op (nth st.rw r) (bK st K) ⟨⟩
 | .v (.slice none 0 0), .v (.slice none 0 0) => nilC ti op [] (bK st K) ⟨⟩
 | x, y => binX ti op x y (stK K st) ⟨⟩
def capC (els : List (List D)) (st : St) (K : SV → St → Prop) (_ : Lk (st, K)) : Prop := ∀ c : Nat, els.length ≤ c → K (.v (.int .i64 c)) st
def capR (r : Option Rw) (st : St) (K : SV → St → Prop) (_ : Lk (st, K)) : Prop :=
 match r with
 | some (.own _ s els) => if s = 0 then False else capC els st K ⟨⟩
 | _ => False
def capX (ti : Option TI) (x : SV) (st : St) (K : SV → St → Prop) (_ : Lk (st, K)) : Prop :=
 match ti, x with
 | some ⟨_, _, .sl .., _⟩, .sl _ _ els => capC els st K ⟨⟩
 | some ⟨_, _, .sl .., _⟩, .v (.slice none 0 0) => K (.v (.int .i64 (0 : Nat))) st
 | some ⟨_, _, .sl .., _⟩, .row r => capR (nth st.rw r) st K ⟨⟩
 | _, _ => False

/-! ### calls -/
def Ent (P : Program) (f : FuncId) : Prop := ∃ fn : Func, P.funcs[f]? = some fn ∧ (fn.name == "runtime.NumGoroutine") = false ∧ fn.body.isNone = false

/-- What an operation writes, of what stands. -/
inductive Ht where
 | no
 | box (b : Nat)
 | row (r : Nat)
 | all
def hitG (g : Gh) : Ht → Nat → Prop
 | .no, _ => False
 | .box k, b => b = g.ρ k
 | .row r, b => ob (g.σ r) = some b
 | .all, _ => True
/-- All that stood stands, but for what was hit. -/
def Fr (g : Gh) (ht : Ht) (w w' : World) : Prop := ∀ b, b < w.heap.size → ¬ hitG g ht b → w'.heap[b]? = w.heap[b]?
theorem Fr.refl (g : Gh) (ht : Ht) (w : World) : Fr g ht w w := fun _ _ _ => rfl
theorem Fr.of {g : Gh} {w w' : World} (h : Fr g .no w w') (ht : Ht) : Fr g ht w w' := fun b hb _ => h b hb (fun h => h)
theorem Fr.all {g : Gh} {w w' : World} : Fr g .all w w' := fun _ _ h => (h trivial).elim
/-- What a call may write: a box that goes first may be changed. -/
def htC : List SV → Ht
 | .sl .. :: .row _ :: _ => .all
 | .box _ _ :: _ => .all
 | .row _ :: _ => .all
 | _ => .no
def callHt (f : SV) (args : List SV) : Ht :=
 match f with
 | .clo _ l => htC (args ++ l)
 | .v (.func (.func _) _ cs) => htC (args ++ cs.toList.map .v)
 | _ => .no

/-- A call: wants a contract ('CallI.ctr') or is carried out in place ('CallI.inl'). -/
def CallI (C : Cx) (f : Nat) (args : List SV) (st : St) (K : SV → St → Prop) (_ : Lk (C, st, K)) : Prop :=
 ∀ g a w, TmOk C g st a → Mem C g st w → ∀ vs, rels g args vs → Ent C.P f ∧ Calls C.P f vs.toArray w (fun e w' => ∃ v, e = .returned v ∧ ∃ g' st' sv, K sv st' ∧ rel g' sv v ∧ TmOk C g' st' a ∧ Mem C g' st' w' ∧ (C.dr = true → g.Le g' ∧ Fr g (htC args) w w'))
/-- A round of the loop that is served. -/
def YldI (C : Cx) (l : Nat) (args : List SV) (st : St) (K : SV → St → Prop) (_ : Lk (C, st, K)) : Prop :=
 C.dr = false ∧ ∀ g a w, TmOk C g st a → Mem C g st w → ∀ vs, rels g args vs → ∃ fn tmps assign body, (Instr.yield l vs.toArray).run C.P w = .ok (.round l fn tmps assign body) w ∧
  RoundIn Fence.wide 0 C.P l fn tmps assign body w (fun e w' => ∃ v, e = .returned v ∧ ∃ g' st' sv, K sv st' ∧ rel g' sv v ∧ TmOk C g' st' a ∧ Mem C g' st' w')
def callX (C : Cx) (fn : SV) (args : List SV) (st : St) (K : SV → St → Prop) (_ : Lk (C, st, K)) : Prop :=
 match fn with
 | .clo f l => CallI C f (args ++ l) st K ⟨⟩
 | .v (.func (.func f) first cs) => first = #[] ∧ CallI C f (args ++ cs.toList.map .v) st K ⟨⟩
 | .v (.func (.yield l) first cs) => first = #[] ∧ cs = #[] ∧ YldI C l args st K ⟨⟩
 | _ => False

/-! maps -/
def kEq : Value → Value → Bool
 | .int k a, .int k' b => k == k' && a == b
 | .string a, .string b => a == b
 | _, _ => false
/-- a key of the map's kind: ints of a kind, or strings. -/
def keyIs : Option IntKind → Value → Bool
 | some i, .int j _ => i == j
 | none, .string _ => true
 | _, _ => false
def entOk (kk : Option IntKind) : List D → Bool
 | [.v k, .v _] => keyIs kk k
 | _ => false
def entsOk (kk : Option IntKind) (els : List (List D)) : Bool := els.all (entOk kk)
def lkE (key : Value) : List (List D) → Option Value
 | [] => none
 | [.v k, .v v] :: l => if kEq key k then some v else lkE key l
 | _ :: l => lkE key l
def upE (key val : Value) : List (List D) → List (List D)
 | [] => [[.v key, .v val]]
 | [.v k, .v v] :: l => if kEq key k then [.v key, .v val] :: l else [.v k, .v v] :: upE key val l
 | e :: l => e :: upE key val l
def lkV (ok : Bool) (z : Value) (r : Option Value) : SV := if ok then .tup [.v (r.getD z), .v (.bool r.isSome)] else .v (r.getD z)
def mmpX (ti : Option TI) (t : TypeId) (st : St) (K : SV → St → Prop) (_ : Lk (st, K)) : Prop :=
 match ti with
 | some ⟨_, _, .mp _ _, _⟩ => pass (.row (lenN st.rw)) (newRow st t 0 []) K ⟨⟩
 | _ => False
def lkR (kk : Option IntKind) (z key : Value) (ok : Bool) (r : Option Rw) (st : St) (K : SV → St → Prop) (_ : Lk (st, K)) : Prop :=
 match r with
 | some (.own _ s els) => s = 0 ∧ keyIs kk key = true ∧ entsOk kk els = true ∧ pass (lkV ok z (lkE key els)) st K ⟨⟩
 | _ => False
/-- maps whose values are slices. -/
def entKD (kk : Option IntKind) : List D → Bool
 | [.v k, _] => keyIs kk k
 | _ => false
def entsKD (kk : Option IntKind) (els : List (List D)) : Bool := els.all (entKD kk)
def lkD (key : Value) : List (List D) → Option D
 | [] => none
 | [.v k, d] :: l => if kEq key k then some d else lkD key l
 | _ :: l => lkD key l
def upD (key : Value) (d : D) : List (List D) → List (List D)
 | [] => [[.v key, d]]
 | [.v k, d'] :: l => if kEq key k then [.v key, d] :: l else [.v k, d'] :: upD key d l
 | e :: l => e :: upD key d l
def nilD : D := .v (.slice none 0 0)
def lkDV (ok : Bool) (r : Option D) : SV := if ok then .tup [ofD (r.getD nilD), .v (.bool r.isSome)] else ofD (r.getD nilD)
def lkG (kk : Option IntKind) (key : Value) (ok : Bool) (r : Option Rw) (st : St) (K : SV → St → Prop) (_ : Lk (st, K)) : Prop :=
 match r with
 | some (.own _ s els) => s = 0 ∧ keyIs kk key = true ∧ entsKD kk els = true ∧ pass (lkDV ok (lkD key els)) st K ⟨⟩
 | _ => False
def upG (kk : Option IntKind) (key : Value) (d : D) (r : Nat) (x : Option Rw) (st : St) (K : SV → St → Prop) (_ : Lk (st, K)) : Prop :=
 match x with
 | some (.own e s els) => s = 0 ∧ keyIs kk key = true ∧ entsKD kk els = true ∧ pass .any { st with rw := setN st.rw r (.own e s (upD key d els)) } K ⟨⟩
 | _ => False
def lkX (ti : Option TI) (x ix : SV) (ok : Bool) (st : St) (K : SV → St → Prop) (_ : Lk (st, K)) : Prop :=
 match ti, x, ix with
 | some ⟨_, _, .mp kk (.slice none 0 0), _⟩, .row r, .v key => lkG kk key ok (nth st.rw r) st K ⟨⟩
 | some ⟨_, _, .mp kk z, _⟩, .row r, .v key => lkR kk z key ok (nth st.rw r) st K ⟨⟩
 | _, _, _ => False
def upR (kk : Option IntKind) (key val : Value) (r : Nat) (x : Option Rw) (st : St) (K : SV → St → Prop) (_ : Lk (st, K)) : Prop :=
 match x with
 | some (.own e s els) => s = 0 ∧ keyIs kk key = true ∧ entsOk kk els = true ∧ pass .any { st with rw := setN st.rw r (.own e s (upE key val els)) } K ⟨⟩
 | _ => False
def upX (ti : Option TI) (x key val : SV) (st : St) (K : SV → St → Prop) (_ : Lk (st, K)) : Prop :=
 match ti, x, key, val with
 | some ⟨_, _, .mp kk _, _⟩, .row r, .v key, .v val => upR kk key val r (nth st.rw r) st K ⟨⟩
 | some ⟨_, _, .mp kk _, _⟩, .row r, .v key, .sl b sz l => upG kk key (.sl b sz l) r (nth st.rw r) st K ⟨⟩
 | _, _, _, _ => False

/-- a string's bytes, never written. -/
def byteT : Option TI → Bool
 | some ⟨_, _, .int .u8, _⟩ => true
 | _ => false
def bytesD (s : ByteArray) : List (List D) := s.data.toList.map fun b => [.v (.int .u8 (b.toNat : Int))]
/-- an own row of bytes, as a string: wants to be named. -/
def CvR (r : Option Rw) (K : SV → St → Prop) (st : St) (_ : Lk (st, K)) : Prop :=
 match r with
 | some (.own _ s els) => s = 1 ∧ 0 < els.length ∧ ∃ z : ByteArray, els = bytesD z ∧ K (.v (.string z)) st
 | _ => False
def cvX (T : Tab) (s d : Option TI) (x : SV) (st : St) (K : SV → St → Prop) (_ : Lk (T, st, K)) : Prop :=
 match s, d, x with
 | some ⟨_, _, .str, _⟩, some ⟨_, _, .sl e es _ _, _⟩, .v (.string z) => es = 1 ∧ byteT (tlook T e) = true ∧ K (.sl true 1 (bytesD z)) st
 | some ⟨_, _, .sl e _ _ _, _⟩, some ⟨_, _, .str, _⟩, .row r => byteT (tlook T e) = true ∧ CvR (nth st.rw r) K st ⟨⟩
 | s, d, x => convX s d x (stK K st) ⟨⟩
/-- a byte of a string, a part of an array: wants to be named. -/
def StrIx (s : ByteArray) (j : Int) (k : SV → Prop) (_ : Lk k) : Prop := 0 ≤ j ∧ ∃ b, s[j.toNat]? = some b ∧ k (.v (.int .u8 (b.toNat : Int)))
def arrK (agg : Bool) (k : SV → Prop) (vs : Option (List SV)) : Prop :=
 match agg, vs with
 | true, some l => k (.agg l)
 | false, some [c] => oneS c = true ∧ k c
 | _, _ => False
def ArrIx (n es : Nat) (agg : Bool) (l : List SV) (j : Int) (k : SV → Prop) (_ : Lk k) : Prop := 0 ≤ j ∧ j < n ∧ arrK agg k (takeN es (dropN (j.toNat * es) l))
def aggT : Option TI → Option Bool
 | some ti => some ti.kd.agg
 | none => none
def ix2 (n es : Nat) (agg : Option Bool) (l : List SV) (j : Int) (k : SV → Prop) (_ : Lk k) : Prop :=
 match agg with
 | some agg => ArrIx n es agg l j k ⟨⟩
 | none => False
def ixX (T : Tab) (ti : Option TI) (x i : SV) (k : SV → Prop) (_ : Lk k) : Prop :=
 match ti, x, i with
 | some ⟨_, _, .str, _⟩, .v (.string s), .v (.int _ j) => StrIx s j k ⟨⟩
 | some ⟨_, _, .arr n e es, _⟩, .agg l, .v (.int _ j) => ix2 n es (aggT (tlook T e)) l j k ⟨⟩
 | _, _, _ => False

def bin3X (y : Operand) (ti : Option TI) (op : BinOp) (x v : SV) (st : St) (K : SV → St → Prop) (_ : Lk (st, K)) : Prop :=
 match ti, y with
 | some ⟨_, _, .ifc, _⟩, .const .nilIface => ifcX op x (stK K st) ⟨⟩
 | ti, _ => bin2X ti op x v st K ⟨⟩
/-- What an operation computes. -/
def opX (T : Tab) (C : Cx) (op : Op) (st : St) (K : SV → St → Prop) (_ : Lk (T, C, op, st, K)) : Prop :=
 match op with
 | .alloc t => allocX (tlook T t) t st K ⟨⟩
 | .box t x => boxX t (st.ev x) st K ⟨⟩
 | .store t x y => storeX (tlook T t) (st.ev x) y st K ⟨⟩
 | .buildSlice t n ⟨(1, x) :: ps⟩ => bsG (tlook T t) n (((1, x) :: ps).map fun p => (p.1, st.ev p.2)) st K ⟨⟩
 | .buildSlice t n ps => armX (look st.tm 1000000) (.agg (ps.toList.map fun p => st.ev p.2)) st (bsA (tlook T t) n ps.toList K) ⟨⟩
 | .makeSlice t l c => mkX (tlook T t) (st.ev l) (st.ev c) st K ⟨⟩
 | .binOp op t x y _ => bin3X y (tlook T t) op (st.ev x) (st.ev y) st K ⟨⟩
 | .call { callee := .builtin .append, args := ⟨[x, y]⟩, argTypes := ⟨[t, t']⟩ } => if t = t' then appX (tlook T t) (st.ev x) (st.ev y) st K ⟨⟩ else apzX (tlook T t) (tlook T t') (st.ev x) (st.ev y) st K ⟨⟩
 | .call { callee := .builtin .cap, args := ⟨[x]⟩, argTypes := ⟨[t]⟩ } => capX (tlook T t) (st.ev x) st K ⟨⟩
 | .slice t x lo hi none => slcY C.pin (tlook T t) (st.ev x) x lo hi st K ⟨⟩
 | .slice t x none (some h) (some m) => tcC (tlook T t) (st.ev x) x h m st K ⟨⟩
 | .call { callee := .value f, args := ⟨l⟩, .. } => callX C (st.ev f) (l.map st.ev) st K ⟨⟩
 | .makeMap t none => mmpX (tlook T t) t st K ⟨⟩
 | .lookup t x ix ok => lkX (tlook T t) (st.ev x) (st.ev ix) ok st K ⟨⟩
 | .mapUpdate t m k x => upX (tlook T t) (st.ev m) (st.ev k) (st.ev x) st K ⟨⟩
 | .convert s d x => cvX T (tlook T s) (tlook T d) (st.ev x) st K ⟨⟩
 | .index t x i => ixX T (tlook T t) (st.ev x) (st.ev i) (stK K st) ⟨⟩
 | .insert t m k x => upX (tlook T t) (st.ev m) (st.ev k) (st.ev x) st K ⟨⟩
 | op => qX T op st (stK K st) ⟨⟩

/-! ### code -/
def gS2 (st : St) : Option Oper → SV
 | some ⟨some d, _, _, _, _, _⟩ => look st.tm d
 | _ => .any
def gSV (st : St) (all : List Oper) (j : Nat) : SV :=
 gS2 st (nth all j)

/-- The slot that a guard looks at. -/
def gD : Option Oper → Option Nat
 | some ⟨d, _, _, _, _, _⟩ => d
 | _ => none

/-- A guarded operation: 'A' if it is wanted, 'B' if it is passed over; what was open is known in each. -/
def gX (x : SV) (b : Bool) (d : Option Nat) (st : St) (A B : St → Prop) (_ : Lk (st, A, B)) : Prop :=
 match x, b with
 | .v (.bool e), true => BrW e (A (st.put d (.v (.bool true)))) (B (st.put d (.v (.bool false)))) ⟨⟩
 | .v (.bool e), false => BrW e (B (st.put d (.v (.bool true)))) (A (st.put d (.v (.bool false)))) ⟨⟩
 | .tup [], _ => B st
 | _, _ => False

def runOps (T : Tab) (C : Cx) (all : List Oper) (l : List Oper) (st : St) (K : St → Prop) (_ : Lk (T, C, all, l, st, K)) : Prop :=
 match l with
 | [] => K st
 | o :: l => match o.guard with
  | none => opX T C o.op st (fun v st' => runOps T C all l (st'.put o.dst v) K ⟨⟩) ⟨⟩
  | some (j, b) => gX (gSV st all j) b (gD (nth all j)) st (fun st => opX T C o.op st (fun v st' => runOps T C all l (st'.put o.dst v) K ⟨⟩) ⟨⟩) (fun st => runOps T C all l (st.put o.dst (.tup [])) K ⟨⟩) ⟨⟩
def opK (T : Tab) (C : Cx) (all : List Oper) (l : List Oper) (d : Option Nat) (K : St → Prop) (v : SV) (st : St) : Prop := runOps T C all l (st.put d v) K ⟨⟩
def goK (T : Tab) (C : Cx) (all : List Oper) (l : List Oper) (op : Op) (d : Option Nat) (K : St → Prop) (st : St) : Prop := opX T C op st (opK T C all l d K) ⟨⟩
def skX (T : Tab) (C : Cx) (all : List Oper) (l : List Oper) (d : Option Nat) (K : St → Prop) (st : St) : Prop := runOps T C all l (st.put d (.tup [])) K ⟨⟩

/-! ### what code means over states -/
structure Mod (C : Cx) (g : Gh) (st : St) (a : Act) (w : World) : Prop where
 tm : TmOk C g st a
 mem : Mem C g st w

def W (C : Cx) (c : Code) (st : St) (K : Exit → St → Prop) : Prop :=
 ∀ g a w, Mod C g st a w → c.wpIn (Fx C.pin.ho.ro) 0 C.P (fun e a' w' => ∃ g' st', K e st' ∧ Mod C g' st' a' w') a w

def dstOps (N : Nat) (l : List Oper) : Bool := l.all fun o => match o.dst with | some d => decide (d < N) | none => true
def dstOk (N : Nat) : Code → Bool
 | .region _ ops _ => dstOps N ops.toList
 | .seq a b => dstOk N a && dstOk N b
 | .cond _ a b => dstOk N a && dstOk N b
 | .block _ c => dstOk N c
 | .loop c => dstOk N c
 | .rangeFunc _ ps a c => (ps.toList.all fun t => decide (t < N)) && dstOk N a && dstOk N c
 | .skip | .exit _ | .ret => true
 | _ => false

/-- A loop: wants an invariant. -/
def LoopW (C : Cx) (c : Code) (st : St) (K : Exit → St → Prop) (_ : Lk (C, c, K)) : Prop := dstOk C.N c = true → W C (.loop c) st K
/-- A region that draws its order. -/
def DrawW (C : Cx) (ops : List Oper) (st : St) (K : St → Prop) (_ : Lk (C, ops, st, K)) : Prop :=
 dstOps C.N ops = true → ∀ id g a w, Mod C g st a w → (Code.region id ops.toArray true).wpIn (Fx C.pin.ho.ro) 0 C.P (fun e a' w' => e = .normal ∧ ∃ g' st', K st' ∧ Mod C g' st' a' w') a w
/-- A range over a function. -/
def RangeW (C : Cx) (f : Operand) (ps : List Nat) (as c : Code) (st : St) (K : Exit → St → Prop) (_ : Lk (C, as, c, st, K)) : Prop := dstOk C.N (.rangeFunc f ps.toArray as c) = true → W C (.rangeFunc f ps.toArray as c) st K

def condX (x : SV) (A B : Prop) (_ : Lk (A, B)) : Prop :=
 match x with
 | .v (.bool b) => BrW b A B ⟨⟩
 | _ => False

def runC (T : Tab) (C : Cx) (c : Code) (st : St) (K : Exit → St → Prop) (_ : Lk (T, C, c, K)) : Prop :=
 match c with
 | .skip => K .normal st
 | .region _ ops false => runOps T C ops.toList ops.toList st (K .normal) ⟨⟩
 | .region _ ops true => DrawW C ops.toList st (K .normal) ⟨⟩
 | .seq a b => runC T C a st (fun e st' => match e with | .normal => runC T C b st' K ⟨⟩ | e => K e st') ⟨⟩
 | .cond c a b => condX (st.ev c) (runC T C a st K ⟨⟩) (runC T C b st K ⟨⟩) ⟨⟩
 | .block id c => runC T C c st (fun e st' => match e with | .exit i => if i = id then K .normal st' else K (.exit i) st' | e => K e st') ⟨⟩
 | .exit id => K (.exit id) st
 | .ret => K .ret st
 | .loop c => LoopW C c st K ⟨⟩
 | .rangeFunc f ps as c => RangeW C f ps.toList as c st K ⟨⟩
 | _ => False

def seqK (T : Tab) (C : Cx) (b : Code) (K : Exit → St → Prop) (e : Exit) (st : St) : Prop :=
 match e with | .normal => runC T C b st K ⟨⟩ | e => K e st
def blkK (id : Nat) (K : Exit → St → Prop) (e : Exit) (st : St) : Prop :=
 match e with | .exit i => if i = id then K .normal st else K (.exit i) st | e => K e st
def norK (K : Exit → St → Prop) (st : St) : Prop := K .normal st

/-! ### comparing states: forgetting and numbering anew -/
mutual
def leV (β : List Nat) (γ : List (Option Nat)) : SV → SV → Prop
 | _, .any => True
 | .v x, .v y => x = y
 | .v x, .sl _ _ els => x = .slice none 0 0 ∧ els = []
 | .v x, .row k' => x = .slice none 0 0 ∧ nth γ k' = some none
 | .sl b s e, .sl b' s' e' => b = b' ∧ s = s' ∧ e = e'
 | .pt b cs, .pt b' cs' => b = b' ∧ cs = cs'
 | .box k o, .box k' o' => o = o' ∧ nth β k' = some k
 | .row k, .row k' => nth γ k' = some (some k)
 | .agg l, .agg l' => leL β γ l l'
 | .tup l, .tup l' => leL β γ l l'
 | .clo f l, .clo f' l' => f = f' ∧ leL β γ l l'
 | .arm, .arm => True
 | .ali k u, .ali k' u' => nth γ k' = some (some k) ∧ u = u'
 | .bxa k b, .bxa k' b' => nth β k' = some k ∧ b = b'
 | .glo i cs, .glo i' cs' => i = i' ∧ cs = cs'
 | _, _ => False
def leL (β : List Nat) (γ : List (Option Nat)) : List SV → List SV → Prop
 | [], [] => True
 | x :: l, y :: l' => leV β γ x y ∧ leL β γ l l'
 | _, _ => False
end
def leR1 : Option Rw → TypeId → Nat → List (List D) → Prop
 | some (.own e s els), e', s', els' => e = e' ∧ s = s' ∧ els = els'
 | _, _, _, _ => False
def leG : Option Rw → Bool → List (List SV) → Prop
 | some (.gh s' ys'), s, ys => s = s' ∧ ys = ys'
 | _, _, _ => False
def leR (rw : List Rw) : List Rw → List (Option Nat) → Prop
 | [], [] => True
 | .own e s els :: l, some r :: ks => leR1 (nth rw r) e s els ∧ leR rw l ks
 | .own _ s els :: l, none :: ks => els = [] ∧ 0 < s ∧ leR rw l ks
 | .gh s ys :: l, some r :: ks => leG (nth rw r) s ys ∧ leR rw l ks
 | _, _ => False

/-! ### the end of a function -/
structure Ret where
 v : SV
 rw : List Rw

def re3 (rw : List Rw) : Bool → Option (List SV) → Option SV
 | true, some cs => some (.agg cs)
 | false, some [c] => some (norm rw c)
 | _, _ => none
def re2 (st : St) : SV → Option TI → Option SV
 | .box b off, some ⟨s, _, kd, _⟩ => re3 st.rw kd.agg (bcells st.bx b off s)
 | _, _ => none
def resS (T : Tab) (st : St) : ResultVar → Option SV
 | .tmp t => some (norm st.rw (look st.tm t))
 | .cell t ty => re2 st (norm st.rw (look st.tm t)) (tlook T ty)
def ressS (T : Tab) (st : St) : List ResultVar → Option (List SV)
 | [] => some []
 | r :: rs => consO (resS T st r) (ressS T st rs)

def tupV : List SV → SV
 | [x] => x
 | l => .tup l

mutual
def normD (rw : List Rw) : SV → SV
 | .row k => norm rw (.row k)
 | .agg l => .agg (normDL rw l)
 | .tup l => .tup (normDL rw l)
 | x => x
def normDL (rw : List Rw) : List SV → List SV
 | [] => []
 | x :: l => normD rw x :: normDL rw l
end
mutual
/-- what a result may be: no own boxes, nothing that is lent. -/
def kpD : D → Prop
 | .v _ => True
 | .sl b _ els => b = true ∧ kpLL els
 | .pt b cs => b = true ∧ kpL cs
 | .clo _ l => kpL l
def kpL : List D → Prop
 | [] => True
 | x :: l => kpD x ∧ kpL l
def kpLL : List (List D) → Prop
 | [] => True
 | x :: l => kpL x ∧ kpLL l
end
mutual
def kpV : SV → Prop
 | .box .. => False
 | .relt .. => False
 | .sl b _ els => b = true ∧ kpLL els
 | .pt b cs => b = true ∧ kpL cs
 | .agg l => kpVL l
 | .tup l => kpVL l
 | .clo _ l => kpVL l
 | .arm => False
 | .ali .. => False
 | .bxa .. => False
 | .glo .. => False
 | .cap .. => False
 | _ => True
def kpVL : List SV → Prop
 | [] => True
 | x :: l => kpV x ∧ kpVL l
end
def kpR : List Rw → Prop
 | [] => True
 | .own _ _ els :: l => kpLL els ∧ kpR l
 | _ => False
/-- The result as the contract has it: rows numbered anew ('γ': from which), no memory that is lent. -/
def EndW (v : SV) (rw : List Rw) (post : Ret → Prop) (_ : Lk post) : Prop := ∃ γ r, post r ∧ (γ.filterMap id).Nodup ∧ leV [] γ v r.v ∧ leR rw r.rw γ ∧ kpV r.v ∧ kpR r.rw
def endK (l : List SV) (post : Ret → Prop) (st : St) (_ : Lk post) : Prop := EndW (normD st.rw (tupV l)) st.rw post ⟨⟩

/-- 'fz': rows in the result become immutable. -/
def endX (fz : Bool) (l : Option (List SV)) (st : St) (post : Ret → Prop) (_ : Lk (st, post)) : Prop :=
 match l with
 | some l => match fz with
  | true => endK l post (frzX (rowsIn st.rw l) st) ⟨⟩
  | false => endK l post st ⟨⟩
 | none => False

def finK (T : Tab) (fz : Bool) (rs : List ResultVar) (post : Ret → Prop) (e : Exit) (st : St) : Prop :=
 match e with
 | .ret => endX fz (ressS T st rs) st post ⟨⟩
 | .normal => endX fz (ressS T st rs) st post ⟨⟩
 | _ => False

/-! ### the equations, for simp -/
theorem leV_any (β : List Nat) (γ : List (Option Nat)) (x : SV) : leV β γ x .any = True := by cases x <;> simp [leV]
theorem sxC_0 :
  (∀ T C st K l, runC T C .skip st K l = K .normal st) ∧
  (∀ T C i ops st K l, runC T C (.region i ⟨ops⟩ false) st K l = runOps T C ops ops st (norK K) ⟨⟩) ∧
  (∀ T C i ops st K l, runC T C (.region i ⟨ops⟩ true) st K l = DrawW C ops st (norK K) ⟨⟩) ∧
  (∀ T C a b st K l, runC T C (.seq a b) st K l = runC T C a st (seqK T C b K) ⟨⟩) ∧
  (∀ T C c a b st K l, runC T C (.cond c a b) st K l = condX (st.ev c) (runC T C a st K ⟨⟩) (runC T C b st K ⟨⟩) ⟨⟩) ∧
  (∀ T C i c st K l, runC T C (.block i c) st K l = runC T C c st (blkK i K) ⟨⟩) ∧
  (∀ T C i st K l, runC T C (.exit i) st K l = K (.exit i) st) ∧
  (∀ T C st K l, runC T C .ret st K l = K .ret st) ∧
  (∀ T C c st K l, runC T C (.loop c) st K l = LoopW C c st K ⟨⟩) ∧
  (∀ T C b K st, seqK T C b K .normal st = runC T C b st K ⟨⟩) ∧
  (∀ T C b K i st, seqK T C b K (.exit i) st = K (.exit i) st) ∧
  (∀ T C b K st, seqK T C b K .ret st = K .ret st) ∧
  (∀ i K st, blkK i K .normal st = K .normal st) ∧
  (∀ i K st, blkK i K .ret st = K .ret st) ∧
  (∀ i K j st, blkK i K (.exit j) st = if j = i then K .normal st else K (.exit j) st) ∧
  (∀ K st, norK K st = K .normal st) ∧
  (∀ b A B l, condX (.v (.bool b)) A B l = BrW b A B ⟨⟩) ∧
  (∀ T C all st K l, runOps T C all [] st K l = K st) ∧
  (∀ T C all d op ty ps af l st K k, runOps T C all (⟨d, op, ty, ps, af, none⟩ :: l) st K k = opX T C op st (opK T C all l d K) ⟨⟩) ∧
  (∀ T C all d op ty ps af j b l st K k, runOps T C all (⟨d, op, ty, ps, af, some (j, b)⟩ :: l) st K k = gX (gSV st all j) b (gD (nth all j)) st (goK T C all l op d K) (skX T C all l d K) ⟨⟩) ∧
  (∀ T C all l d K v tm bx rw, opK T C all l (some d) K v ⟨tm, bx, rw⟩ = runOps T C all l ⟨(d, v) :: tm, bx, rw⟩ K ⟨⟩) ∧
  (∀ T C all l K v st, opK T C all l none K v st = runOps T C all l st K ⟨⟩) ∧
  (∀ T C all l d K tm bx rw, skX T C all l (some d) K ⟨tm, bx, rw⟩ = runOps T C all l ⟨(d, .tup []) :: tm, bx, rw⟩ K ⟨⟩) ∧
  (∀ T C all l K st, skX T C all l none K st = runOps T C all l st K ⟨⟩) ∧
  (∀ T C all l op d K st, goK T C all l op d K st = opX T C op st (opK T C all l d K) ⟨⟩) ∧
  (∀ T fz rs post st, finK T fz rs post .ret st = endX fz (ressS T st rs) st post ⟨⟩) ∧
  (∀ T fz rs post st, finK T fz rs post .normal st = endX fz (ressS T st rs) st post ⟨⟩) ∧
  (∀ l st post k, endX true (some l) st post k = endK l post (frzX (rowsIn st.rw l) st) ⟨⟩) ∧
  (∀ l st post k, endX false (some l) st post k = endK l post st ⟨⟩) ∧
  (∀ l post tm bx rw k, endK l post ⟨tm, bx, rw⟩ k = EndW (normD rw (tupV l)) rw post ⟨⟩) := by
 refine ⟨?_, ?_, ?_, ?_, ?_, ?_, ?_, ?_, ?_, ?_, ?_, ?_, ?_, ?_, ?_, ?_, ?_, ?_, ?_, ?_, ?_, ?_, ?_, ?_, ?_, ?_, ?_, ?_, ?_, ?_⟩ <;> (intros; first | rfl | exact leV_any _ _ _ | (simp [rowsIn, putL, callX, opX, qX, pass, passQ, stK, BrW, slcX, bin2X, leV, leL, leR, leR1, kpV, kpVL, kpD, kpL, kpLL, kpR, toD]; done) | (simp only [BrW, Bool.not_eq_true', Bool.not_eq_false']; exact propext and_comm))
theorem sxO_0 :
  (∀ T C x st K l, opX T C (.move x) st K l = pass (st.ev x) st K ⟨⟩) ∧
  (∀ T C x st K l, opX T C (.assign x) st K l = pass (st.ev x) st K ⟨⟩) ∧
  (∀ T C c x y st K l, opX T C (.pick c x y) st K l = pickX (st.ev c) (st.ev x) (st.ev y) (stK K st) ⟨⟩) ∧
  (∀ T C o t x y u st K l, opX T C (.binOp o t x y u) st K l = bin3X y (tlook T t) o (st.ev x) (st.ev y) st K ⟨⟩) ∧
  (∀ T C o t x st K l, opX T C (.unOp o t x) st K l = unX o (st.ev x) (stK K st) ⟨⟩) ∧
  (∀ T C s d x st K l, opX T C (.convert s d x) st K l = cvX T (tlook T s) (tlook T d) (st.ev x) st K ⟨⟩) ∧
  (∀ T C t x f st K l, opX T C (.fieldAddr t x f) st K l = faX (tlook T t) (st.ev x) f (stK K st) ⟨⟩) ∧
  (∀ T C t x i st K l, opX T C (.indexAddr t x i) st K l = iaX (tlook T t) st.rw (st.ev x) (st.ev i) (stK K st) ⟨⟩) ∧
  (∀ T C t x st K l, opX T C (.load t x) st K l = loadX (tlook T t) (st.ev x) st (stK K st) ⟨⟩) ∧
  (∀ T C x i st K l, opX T C (.extract x i) st K l = exX (st.ev x) i (stK K st) ⟨⟩) ∧
  (∀ T C x st K l, opX T C (.nilCheck x) st K l = nilX (st.ev x) (stK K st) ⟨⟩) ∧
  (∀ T C t ps st K l, opX T C (.build t ⟨ps⟩) st K l = buildX (tlook T t) (ps.map fun p => (p.1, st.ev p.2)) (stK K st) ⟨⟩) ∧
  (∀ T C f cs st K l, opX T C (.makeFunc (.func f) ⟨[]⟩ ⟨cs⟩) st K l = pass (.clo f (cs.map st.ev)) st K ⟨⟩) ∧
  (∀ T C x t st K l, opX T C (.call ⟨.builtin .len, ⟨[x]⟩, ⟨[t]⟩⟩) st K l = lenX (tlook T t) st.rw (st.ev x) (stK K st) ⟨⟩) ∧
  (∀ T C x t st K l, opX T C (.call ⟨.builtin .cap, ⟨[x]⟩, ⟨[t]⟩⟩) st K l = capX (tlook T t) (st.ev x) st K ⟨⟩) ∧
  (∀ T C xs ts st K l, opX T C (.call ⟨.builtin .min, ⟨xs⟩, ts⟩) st K l = mmX false (xs.map st.ev) (stK K st) ⟨⟩) ∧
  (∀ T C xs ts st K l, opX T C (.call ⟨.builtin .max, ⟨xs⟩, ts⟩) st K l = mmX true (xs.map st.ev) (stK K st) ⟨⟩) ∧
  (∀ T C t st K l, opX T C (.alloc t) st K l = allocX (tlook T t) t st K ⟨⟩) ∧
  (∀ T C t x st K l, opX T C (.box t x) st K l = boxX t (st.ev x) st K ⟨⟩) ∧
  (∀ T C t x y st K l, opX T C (.store t x y) st K l = storeX (tlook T t) (st.ev x) y st K ⟨⟩) ∧
  (∀ T C t n x ps st K l, opX T C (.buildSlice t n ⟨(0, x) :: ps⟩) st K l = armX (look st.tm 1000000) (.agg (((0, x) :: ps).map fun p => st.ev p.2)) st (bsA (tlook T t) n ((0, x) :: ps) K) ⟨⟩) ∧ (∀ T C t n st K l, opX T C (.buildSlice t n ⟨[]⟩) st K l = armX (look st.tm 1000000) (.agg []) st (bsA (tlook T t) n [] K) ⟨⟩) ∧
  (∀ T C t a b st K l, opX T C (.makeSlice t a b) st K l = mkX (tlook T t) (st.ev a) (st.ev b) st K ⟨⟩) ∧
  (∀ T C x y t u st K l, opX T C (.call ⟨.builtin .append, ⟨[x, y]⟩, ⟨[t, u]⟩⟩) st K l = if t = u then appX (tlook T t) (st.ev x) (st.ev y) st K ⟨⟩ else apzX (tlook T t) (tlook T u) (st.ev x) (st.ev y) st K ⟨⟩) ∧
  (∀ T C t x lo hi st K l, opX T C (.slice t x lo hi none) st K l = slcY C.pin (tlook T t) (st.ev x) x lo hi st K ⟨⟩) ∧
  (∀ T C t st K l, opX T C (.makeMap t none) st K l = mmpX (tlook T t) t st K ⟨⟩) ∧
  (∀ T C t x ix ok st K l, opX T C (.lookup t x ix ok) st K l = lkX (tlook T t) (st.ev x) (st.ev ix) ok st K ⟨⟩) ∧
  (∀ T C t m k x st K l, opX T C (.mapUpdate t m k x) st K l = upX (tlook T t) (st.ev m) (st.ev k) (st.ev x) st K ⟨⟩) ∧
  (∀ T C f xs ts st K l, opX T C (.call ⟨.value f, ⟨xs⟩, ts⟩) st K l = callX C (st.ev f) (xs.map st.ev) st K ⟨⟩) := by
 refine ⟨?_, ?_, ?_, ?_, ?_, ?_, ?_, ?_, ?_, ?_, ?_, ?_, ?_, ?_, ?_, ?_, ?_, ?_, ?_, ?_, ?_, ?_, ?_, ?_, ?_, ?_, ?_, ?_⟩ <;> (intros; first | rfl | exact leV_any _ _ _ | (simp [rowsIn, putL, callX, opX, qX, pass, passQ, stK, BrW, slcX, bin2X, leV, leL, leR, leR1, kpV, kpVL, kpD, kpL, kpLL, kpR, toD]; done) | (simp only [BrW, Bool.not_eq_true', Bool.not_eq_false']; exact propext and_comm))
theorem sxF1_0 :
  (∀ (k : SV → Prop) (v : SV) l, passQ v k l = k v) ∧
  (∀ (K : SV → St → Prop) v st l, pass v st K l = K v st) ∧
  (∀ K st v, stK K st v = K v st) ∧
  (∀ K st b, bK st K b = K (.v (.bool b)) st) ∧
  (∀ tm bx rw t, St.ev ⟨tm, bx, rw⟩ (.tmp t) = norm rw (look tm t)) ∧
  (∀ st f, St.ev st (.func f) = .clo f []) ∧
  (∀ st g, St.ev st (.global g) = evG g (look st.tm 2000000)) ∧
  (∀ st v, St.ev st (.const v) = ofV v) ∧
  (∀ k, ofV (.bool k) = .v (.bool k)) ∧
  (∀ k n, ofV (.int k n) = .v (.int k n)) ∧
  (∀ z, ofV (.string z) = .v (.string z)) ∧
  (∀ a n c, ofV (.slice a n c) = .v (.slice a n c)) ∧
  (∀ a, ofV (.pointer a) = .v (.pointer a)) ∧
  (∀ a, ofV (.map a) = .v (.map a)) ∧
  (∀ f a b, ofV (.func f a b) = .v (.func f a b)) ∧
  (∀ l, ofV (.agg ⟨l⟩) = .agg (l.map SV.v)) ∧
  (ofV .nilFunc = .v .nilFunc) ∧
  (ofV .nilIface = .v .nilIface) ∧
  (∀ l, ofV (.tuple ⟨l⟩) = .v (.tuple ⟨l⟩)) ∧
  (∀ x, ofD (.v x) = .v x) ∧
  (∀ b s e, ofD (.sl b s e) = .sl b s e) ∧
  (∀ b c, ofD (.pt b c) = .pt b c) ∧
  (∀ f l, ofD (.clo f l) = .clo f (ofDL l)) ∧
  (ofDL [] = []) ∧
  (∀ d l, ofDL (d :: l) = ofD d :: ofDL l) ∧
  (∀ t x l u, look ((t, x) :: l) u = if t = u then x else look l u) ∧
  (∀ u, look [] u = .any) ∧
  (∀ rw, norm rw .any = .any) ∧
  (∀ rw x, norm rw (.v x) = .v x) ∧
  (∀ rw b s e, norm rw (.sl b s e) = .sl b s e) ∧
  (∀ rw b c, norm rw (.pt b c) = .pt b c) ∧
  (∀ rw k o, norm rw (.box k o) = .box k o) ∧
  (∀ rw A i s o, norm rw (.relt A i s o) = .relt A i s o) ∧
  (∀ rw l, norm rw (.agg l) = .agg l) ∧
  (∀ rw l, norm rw (.tup l) = .tup l) ∧
  (∀ rw f l, norm rw (.clo f l) = .clo f l) ∧
  (∀ rw k, norm rw (.row k) = rwN k (nth rw k)) ∧
  (∀ k, rwN k none = .row k) ∧
  (∀ k, rwN k (some .gone) = .row k) ∧
  (∀ k e s l, rwN k (some (.own e s l)) = .row k) := by
 refine ⟨?_, ?_, ?_, ?_, ?_, ?_, ?_, ?_, ?_, ?_, ?_, ?_, ?_, ?_, ?_, ?_, ?_, ?_, ?_, ?_, ?_, ?_, ?_, ?_, ?_, ?_, ?_, ?_, ?_, ?_, ?_, ?_, ?_, ?_, ?_, ?_, ?_, ?_, ?_, ?_⟩ <;> (intros; first | rfl | exact leV_any _ _ _ | (simp [rowsIn, putL, callX, opX, qX, pass, passQ, stK, BrW, slcX, bin2X, leV, leL, leR, leR1, kpV, kpVL, kpD, kpL, kpLL, kpR, toD]; done) | (simp only [BrW, Bool.not_eq_true', Bool.not_eq_false']; exact propext and_comm))
theorem sxF1_1 :
  (∀ k s e, rwN k (some (.frz s e)) = .sl true s e) ∧
  (∀ (α : Type) (n : Nat), nth ([] : List α) n = none) ∧
  (∀ (α : Type) (x : α) l, nth (x :: l) 0 = some x) ∧
  (∀ (α : Type) (x : α) l n, nth (x :: l) (n + 1) = nth l n) ∧
  (∀ (α : Type) (l : List α), dropN 0 l = l) ∧
  (∀ (α : Type) n, dropN (n + 1) ([] : List α) = []) ∧
  (∀ (α : Type) (x : α) l n, dropN (n + 1) (x :: l) = dropN n l) ∧
  (∀ (α : Type) (l : List α), takeN 0 l = some []) ∧
  (∀ (α : Type) n, takeN (n + 1) ([] : List α) = none) ∧
  (∀ (α : Type) (x : α) l n, takeN (n + 1) (x :: l) = (takeN n l).map (x :: ·)) ∧
  (∀ (α : Type) n (y : α), setN [] n y = []) ∧
  (∀ (α : Type) (x : α) l y, setN (x :: l) 0 y = y :: l) ∧
  (∀ (α : Type) (x : α) l n y, setN (x :: l) (n + 1) y = x :: setN l n y) ∧
  (∀ (α : Type) (l : List α), putL l 0 [] = some l) ∧
  (∀ (α : Type) (x : α) l y ys, putL (x :: l) 0 (y :: ys) = (putL l 0 ys).map (y :: ·)) ∧
  (∀ (α : Type) (x : α) l n ys, putL (x :: l) (n + 1) ys = (putL l n ys).map (x :: ·)) ∧
  (∀ (α : Type), lenN ([] : List α) = 0) ∧
  (∀ (α : Type) (x : α) l, lenN (x :: l) = lenN l + 1) ∧
  (∀ (α β : Type) (f : α → β), Option.map f none = none) ∧
  (∀ (α β : Type) (f : α → β) x, Option.map f (some x) = some (f x)) ∧
  (∀ (α β : Type) (f : α → Option β), Option.bind none f = none) ∧
  (∀ (α β : Type) (f : α → Option β) x, Option.bind (some x) f = f x) ∧
  (∀ (α β : Type) (f : α → β), List.map f [] = []) ∧
  (∀ (α β : Type) (f : α → β) x l, List.map f (x :: l) = f x :: List.map f l) ∧
  (∀ (α : Type) (l : List α), [] ++ l = l) ∧
  (∀ (α : Type) (x : α) l m, (x :: l) ++ m = x :: (l ++ m)) := by
 refine ⟨?_, ?_, ?_, ?_, ?_, ?_, ?_, ?_, ?_, ?_, ?_, ?_, ?_, ?_, ?_, ?_, ?_, ?_, ?_, ?_, ?_, ?_, ?_, ?_, ?_, ?_⟩ <;> (intros; first | rfl | exact leV_any _ _ _ | (simp [rowsIn, putL, callX, opX, qX, pass, passQ, stK, BrW, slcX, bin2X, leV, leL, leR, leR1, kpV, kpVL, kpD, kpL, kpLL, kpR, toD]; done) | (simp only [BrW, Bool.not_eq_true', Bool.not_eq_false']; exact propext and_comm))
theorem sxF2_0 :
  (cellsOf .any = none) ∧
  (∀ l, cellsOf (.tup l) = none) ∧
  (∀ l, cellsOf (.agg l) = some l) ∧
  (∀ b s e, cellsOf (.sl b s e) = some [.sl b s e]) ∧
  (∀ b c, cellsOf (.pt b c) = some [.pt b c]) ∧
  (∀ k o, cellsOf (.box k o) = some [.box k o]) ∧
  (∀ k, cellsOf (.row k) = some [.row k]) ∧
  (∀ f l, cellsOf (.clo f l) = some [.clo f l]) ∧
  (∀ k n, cellsOf (.v (.int k n)) = some [.v (.int k n)]) ∧
  (∀ k, cellsOf (.v (.bool k)) = some [.v (.bool k)]) ∧
  (∀ k, cellsOf (.v (.string k)) = some [.v (.string k)]) ∧
  (∀ k n m, cellsOf (.v (.slice k n m)) = some [.v (.slice k n m)]) ∧
  (∀ k, cellsOf (.v (.pointer k)) = some [.v (.pointer k)]) ∧
  (∀ k, cellsOf (.v (.map k)) = some [.v (.map k)]) ∧
  (∀ f a b, cellsOf (.v (.func f a b)) = some [.v (.func f a b)]) ∧
  (cellsOf (.v .nilFunc) = some [.v .nilFunc]) ∧
  (cellsOf (.v .nilIface) = some [.v .nilIface]) ∧
  (∀ t x, cellsOf (.v (.iface t x)) = some [.v (.iface t x)]) ∧
  (intsOf [] = some []) ∧
  (∀ n l, intsOf (.v (.int .i64 n) :: l) = (intsOf l).map (n :: ·)) ∧
  (∀ rw x, toD rw (.v x) = vD x (oneV x)) ∧
  (∀ x, vD x true = some (.v x)) ∧
  (∀ rw b s e, toD rw (.sl b s e) = some (.sl b s e)) ∧
  (∀ rw b c, toD rw (.pt b c) = some (.pt b c)) ∧
  (∀ rw k, toD rw (.row k) = rwD (nth rw k)) ∧
  (∀ rw f l, toD rw (.clo f l) = (toDL rw l).map (.clo f ·)) ∧
  (∀ rw k o, toD rw (.box k o) = none) ∧
  (rwD none = none) ∧
  (rwD (some .gone) = none) ∧
  (∀ e s l, rwD (some (.own e s l)) = none) ∧
  (∀ s e, rwD (some (.frz s e)) = some (.sl true s e)) ∧
  (∀ rw, toDL rw [] = some []) ∧
  (∀ rw x l, toDL rw (x :: l) = consO (toD rw x) (toDL rw l)) ∧
  (∀ rw cs, toDO rw (some cs) = toDL rw cs) ∧
  (∀ (α : Type) (x : α) l, consO (some x) (some l) = some (x :: l)) ∧
  (∀ rw, rowsIn rw [] = []) ∧
  (∀ rw r l, rowsIn rw (.row r :: l) = rwI r (nth rw r) (rowsIn rw l)) ∧
  (∀ rw m l, rowsIn rw (.agg m :: l) = rowsIn rw m ++ rowsIn rw l) ∧
  (∀ rw l, rowsIn rw (.any :: l) = rowsIn rw l) ∧
  (∀ rw x l, rowsIn rw (.v x :: l) = rowsIn rw l) := by
 refine ⟨?_, ?_, ?_, ?_, ?_, ?_, ?_, ?_, ?_, ?_, ?_, ?_, ?_, ?_, ?_, ?_, ?_, ?_, ?_, ?_, ?_, ?_, ?_, ?_, ?_, ?_, ?_, ?_, ?_, ?_, ?_, ?_, ?_, ?_, ?_, ?_, ?_, ?_, ?_, ?_⟩ <;> (intros; first | rfl | exact leV_any _ _ _ | (simp [rowsIn, putL, callX, opX, qX, pass, passQ, stK, BrW, slcX, bin2X, leV, leL, leR, leR1, kpV, kpVL, kpD, kpL, kpLL, kpR, toD]; done) | (simp only [BrW, Bool.not_eq_true', Bool.not_eq_false']; exact propext and_comm))
theorem sxF2_1 :
  (∀ rw b s e l, rowsIn rw (.sl b s e :: l) = rowsIn rw l) ∧
  (∀ rw b c l, rowsIn rw (.pt b c :: l) = rowsIn rw l) ∧
  (∀ rw k o l, rowsIn rw (.box k o :: l) = rowsIn rw l) ∧
  (∀ rw A i s o l, rowsIn rw (.relt A i s o :: l) = rowsIn rw l) ∧
  (∀ rw f m l, rowsIn rw (.clo f m :: l) = rowsIn rw l) ∧
  (∀ rw m l, rowsIn rw (.tup m :: l) = rowsIn rw l) ∧
  (∀ r l, rwI r none l = l) ∧
  (∀ r l, rwI r (some .gone) l = l) ∧
  (∀ r e s x l, rwI r (some (.own e s x)) l = r :: l) ∧
  (∀ r s e l, rwI r (some (.frz s e)) l = l) ∧
  (∀ st all j, gSV st all j = gS2 st (nth all j)) ∧
  (∀ st d op ty ps af g, gS2 st (some ⟨some d, op, ty, ps, af, g⟩) = look st.tm d) ∧
  (∀ d op ty ps af g, gD (some ⟨d, op, ty, ps, af, g⟩) = d) ∧
  (∀ e d tm bx rw A B l, gX (.v (.bool e)) true (some d) ⟨tm, bx, rw⟩ A B l = BrW e (A ⟨(d, .v (.bool true)) :: tm, bx, rw⟩) (B ⟨(d, .v (.bool false)) :: tm, bx, rw⟩) ⟨⟩) ∧
  (∀ e d tm bx rw A B l, gX (.v (.bool e)) false (some d) ⟨tm, bx, rw⟩ A B l = BrW e (B ⟨(d, .v (.bool true)) :: tm, bx, rw⟩) (A ⟨(d, .v (.bool false)) :: tm, bx, rw⟩) ⟨⟩) ∧
  (∀ b d st A B l, gX (.tup []) b d st A B l = B st) ∧
  (∀ tm bx rw, St.rw ⟨tm, bx, rw⟩ = rw) ∧
  (∀ tm bx rw, St.tm ⟨tm, bx, rw⟩ = tm) ∧
  (∀ tm bx rw, St.bx ⟨tm, bx, rw⟩ = bx) ∧
  (∀ b x y k l, pickX (.v (.bool b)) x y k l = BrW b (passQ x k ⟨⟩) (passQ y k ⟨⟩) ⟨⟩) := by
 refine ⟨?_, ?_, ?_, ?_, ?_, ?_, ?_, ?_, ?_, ?_, ?_, ?_, ?_, ?_, ?_, ?_, ?_, ?_, ?_, ?_⟩ <;> (intros; first | rfl | exact leV_any _ _ _ | (simp [rowsIn, putL, callX, opX, qX, pass, passQ, stK, BrW, slcX, bin2X, leV, leL, leR, leR1, kpV, kpVL, kpD, kpL, kpLL, kpR, toD]; done) | (simp only [BrW, Bool.not_eq_true', Bool.not_eq_false']; exact propext and_comm))
theorem sxF3_0 :
  (∀ ti op kd kd' a b st K l, bin2X ti op (.v (.int kd a)) (.v (.int kd' b)) st K l = binX ti op (.v (.int kd a)) (.v (.int kd' b)) (stK K st) ⟨⟩) ∧
  (∀ ti op a b st K l, bin2X ti op (.v (.string a)) (.v (.string b)) st K l = binX ti op (.v (.string a)) (.v (.string b)) (stK K st) ⟨⟩) ∧
  (∀ ti op a b st K l, bin2X ti op (.agg a) (.agg b) st K l = binX ti op (.agg a) (.agg b) (stK K st) ⟨⟩) ∧
  (∀ ti op b s e st K l, bin2X ti op (.sl b s e) (.v (.slice none 0 0)) st K l = nilC ti op e (bK st K) ⟨⟩) ∧
  (∀ ti op r st K l, bin2X ti op (.row r) (.v (.slice none 0 0)) st K l = nilR ti op (nth st.rw r) (bK st K) ⟨⟩) ∧
  (∀ ti op st K l, bin2X ti op (.v (.slice none 0 0)) (.v (.slice none 0 0)) st K l = nilC ti op [] (bK st K) ⟨⟩) ∧
  (∀ ti op e s els k l, nilR ti op (some (.own e s els)) k l = if s = 0 then False else nilC ti op els k ⟨⟩) ∧
  (∀ z q e es eb ez m els k l, nilC (some ⟨z, q, .sl e es eb ez, m⟩) .eql els k l = ∀ z : Bool, (z = true → els = []) → k z) ∧
  (∀ z q e es eb ez m els k l, nilC (some ⟨z, q, .sl e es eb ez, m⟩) .neq els k l = ∀ z : Bool, (z = false → els = []) → k z) ∧
  (∀ ti op kd kd' a b k l, binX ti op (.v (.int kd a)) (.v (.int kd' b)) k l = if kd = kd' then ibin op kd a b k ⟨⟩ else False) ∧
  (∀ kd a b k l, ibin .add kd a b k l = Vc (InK kd (a + b)) (k (.v (.int kd (a + b)))) ⟨⟩) ∧
  (∀ kd a b k l, ibin .sub kd a b k l = Vc (InK kd (a - b)) (k (.v (.int kd (a - b)))) ⟨⟩) ∧
  (∀ kd a b k l, ibin .mul kd a b k l = Vc (InK kd (a * b)) (k (.v (.int kd (a * b)))) ⟨⟩) ∧
  (∀ kd a b k l, ibin .quo kd a b k l = Vc (b ≠ 0 ∧ InK kd (a.tdiv b)) (k (.v (.int kd (a.tdiv b)))) ⟨⟩) ∧
  (∀ kd a b k l, ibin .rem kd a b k l = Vc (b ≠ 0) (k (.v (.int kd (a.tmod b)))) ⟨⟩) ∧
  (∀ kd a b k l, ibin .eql kd a b k l = k (.v (.bool (decide (a = b))))) ∧
  (∀ kd a b k l, ibin .neq kd a b k l = k (.v (.bool (decide (a ≠ b))))) ∧
  (∀ kd a b k l, ibin .lss kd a b k l = k (.v (.bool (decide (a < b))))) ∧
  (∀ kd a b k l, ibin .leq kd a b k l = k (.v (.bool (decide (a ≤ b))))) ∧
  (∀ kd a b k l, ibin .gtr kd a b k l = k (.v (.bool (decide (b < a))))) ∧
  (∀ kd a b k l, ibin .geq kd a b k l = k (.v (.bool (decide (b ≤ a))))) ∧
  (∀ kd a b k l, ibin .xor kd a b k l = Vc ((a = 0 ∨ a = 1) ∧ (b = 0 ∨ b = 1)) (k (.v (.int kd (if a = b then 0 else 1)))) ⟨⟩) ∧
  (∀ ti a b k l, binX ti .add (.v (.string a)) (.v (.string b)) k l = Vc (a.size + b.size ≤ 9223372036854775807) (k (.v (.string (a ++ b)))) ⟨⟩) ∧
  (∀ ti a b k l, binX ti .eql (.v (.string a)) (.v (.string b)) k l = k (.v (.bool (decide (a = b))))) ∧
  (∀ ti a b k l, binX ti .neq (.v (.string a)) (.v (.string b)) k l = k (.v (.bool (decide (a ≠ b))))) ∧
  (∀ ti op a b k l, binX ti op (.agg a) (.agg b) k l = agg2 ti op a b k ⟨⟩) ∧
  (∀ z q kd n as bs k l, aggX (some ⟨z, q, kd, n⟩) .eql (some as) (some bs) k l = (n ≠ 0 ∧ lenN as = n ∧ lenN bs = n ∧ k (.v (.bool (decide (as = bs)))))) ∧
  (∀ z q kd n as bs k l, aggX (some ⟨z, q, kd, n⟩) .neq (some as) (some bs) k l = (n ≠ 0 ∧ lenN as = n ∧ lenN bs = n ∧ k (.v (.bool (decide (as ≠ bs)))))) ∧
  (∀ b k l, unX .not (.v (.bool b)) k l = k (.v (.bool (!b)))) ∧
  (∀ kd a k l, unX .neg (.v (.int kd a)) k l = Vc (InK kd (-a)) (k (.v (.int kd (-a)))) ⟨⟩) ∧
  (∀ s z q kd e j n k l, convX (some s) (some ⟨z, q, .int kd, e⟩) (.v (.int j n)) k l = Vc (InK kd n) (k (.v (.int kd n))) ⟨⟩) ∧
  (∀ z q e z' q' e' x k l, convX (some ⟨z, q, .str, e⟩) (some ⟨z', q', .str, e'⟩) (.v (.string x)) k l = k (.v (.string x))) ∧
  (∀ z q kd e z' q' e' j n k l, convX (some ⟨z, q, .int kd, e⟩) (some ⟨z', q', .str, e'⟩) (.v (.int j n)) k l = k (.v (.string (Utf8.encode n)))) ∧
  (∀ z q fs e x f k l, faX (some ⟨z, q, .st fs, e⟩) x f k l = fa2 x (nth fs f) k ⟨⟩) ∧
  (∀ x o s k l, fa2 x (some (o, s)) k l = faP (addOff x o) k ⟨⟩) ∧
  (∀ b o k l, faP (.box b o) k l = k (.box b o)) ∧
  (∀ b c k l, faP (.pt b c) k l = k (.pt b c)) ∧
  (∀ r i s o k l, faP (.relt r i s o) k l = k (.relt r i s o)) ∧
  (∀ a k l, faP (.v (.pointer (some a))) k l = k (.v (.pointer (some a)))) ∧
  (∀ b o n, addOff (.box b o) n = .box b (o + n)) ∧
  (∀ b c n, addOff (.pt b c) n = .pt b (dropN n c)) ∧
  (∀ A i s o n, addOff (.relt A i s o) n = .relt A i s (o + n)) := by
 refine ⟨?_, ?_, ?_, ?_, ?_, ?_, ?_, ?_, ?_, ?_, ?_, ?_, ?_, ?_, ?_, ?_, ?_, ?_, ?_, ?_, ?_, ?_, ?_, ?_, ?_, ?_, ?_, ?_, ?_, ?_, ?_, ?_, ?_, ?_, ?_, ?_, ?_, ?_, ?_, ?_, ?_, ?_⟩ <;> (intros; first | rfl | exact leV_any _ _ _ | (simp [rowsIn, putL, callX, opX, qX, pass, passQ, stK, BrW, slcX, bin2X, leV, leL, leR, leR1, kpV, kpVL, kpD, kpL, kpLL, kpR, toD]; done) | (simp only [BrW, Bool.not_eq_true', Bool.not_eq_false']; exact propext and_comm))
theorem sxF3_1 :
  (∀ a n, addOff (.v (.pointer (some a))) n = .v (.pointer (some (a.add n)))) ∧
  (∀ z q e es eb ez m rw b s els kd j k l, iaX (some ⟨z, q, .sl e es eb ez, m⟩) rw (.sl b s els) (.v (.int kd j)) k l = if s = es then IxW els j (ptK b k) ⟨⟩ else False) ∧
  (∀ z q e es eb ez m rw r kd j k l, iaX (some ⟨z, q, .sl e es eb ez, m⟩) rw (.row r) (.v (.int kd j)) k l = iaR (nth rw r) r es j k ⟨⟩) ∧
  (∀ e s els r es j k l, iaR (some (.own e s els)) r es j k l = if s = es then Vc (0 ≤ j ∧ j < (els.length : Int)) (k (.relt r j es 0)) ⟨⟩ else False) ∧
  (∀ z q n e es m rw b o kd j k l, iaX (some ⟨z, q, .arr n e es, m⟩) rw (.box b o) (.v (.int kd j)) k l = Vc (0 ≤ j ∧ j < (n : Int)) (passQ (.box b (o + j.toNat * es)) k ⟨⟩) ⟨⟩) ∧
  (∀ z q n e es m rw b c kd j k l, iaX (some ⟨z, q, .arr n e es, m⟩) rw (.pt b c) (.v (.int kd j)) k l = Vc (0 ≤ j ∧ j < (n : Int)) (passQ (.pt b (dropN (j.toNat * es) c)) k ⟨⟩) ⟨⟩) ∧
  (∀ b k e, ptK b k e = k (.pt b e)) := by
 refine ⟨?_, ?_, ?_, ?_, ?_, ?_, ?_⟩ <;> (intros; first | rfl | exact leV_any _ _ _ | (simp [rowsIn, putL, callX, opX, qX, pass, passQ, stK, BrW, slcX, bin2X, leV, leL, leR, leR1, kpV, kpVL, kpD, kpL, kpLL, kpR, toD]; done) | (simp only [BrW, Bool.not_eq_true', Bool.not_eq_false']; exact propext and_comm))
theorem sxF4_0 :
  (∀ z q kd e b o st k l, loadX (some ⟨z, q, kd, e⟩) (.box b o) st k l = loadB kd.agg z st.rw (bcells st.bx b o z) k ⟨⟩) ∧
  (∀ z q kd e b c st k l, loadX (some ⟨z, q, kd, e⟩) (.pt b c) st k l = loadP kd.agg (takeN z c) k ⟨⟩) ∧
  (∀ z q kd e r i s o st k l, loadX (some ⟨z, q, kd, e⟩) (.relt r i s o) st k l = loadR kd.agg z (nth st.rw r) i s o (derK (look st.tm 1000000) k) ⟨⟩) ∧
  (∀ g n e s' els i s o k l, loadR g n (some (.own e s' els)) i s o k l = if s' = s then IxW els i (elK g n o k) ⟨⟩ else False) ∧
  (∀ g n o k e, elK g n o k e = loadP g (takeN n (dropN o e)) k ⟨⟩) ∧
  (∀ c cs k l, loadP true (some (c :: cs)) k l = k (.agg (ofDL (c :: cs)))) ∧
  (∀ c k l, loadP false (some [c]) k l = k (ofD c)) ∧
  (∀ fs, Kd.agg (.st fs) = true) ∧
  (∀ n e s, Kd.agg (.arr n e s) = true) ∧
  (∀ a b c d, Kd.agg (.sl a b c d) = false) ∧
  (Kd.agg .scalar = false) ∧
  (∀ k, Kd.agg (.int k) = false) ∧
  (Kd.agg .str = false) ∧
  (∀ bx b o n, bcells bx b o n = bc2 o n (nth bx b)) ∧
  (∀ o n x, bc2 o n (some (some x)) = takeN n (dropN o x.cells)) ∧
  (∀ t c, Bx.cells ⟨t, c⟩ = c) ∧
  (∀ t c, Bx.ty ⟨t, c⟩ = t) ∧
  (∀ n rw cs k l, loadB true n rw (some cs) k l = k (.agg cs)) ∧
  (∀ n rw c k l, loadB false n rw (some [c]) k l = (n = 1 ∧ passQ (norm rw c) k ⟨⟩)) ∧
  (∀ z q e es eb ez m rw a n c k l, lenX (some ⟨z, q, .sl e es eb ez, m⟩) rw (.v (.slice a n c)) k l = k (.v (.int .i64 n))) ∧
  (∀ z q e es eb ez m rw b s els k l, lenX (some ⟨z, q, .sl e es eb ez, m⟩) rw (.sl b s els) k l = k (.v (.int .i64 els.length))) ∧
  (∀ y q m rw z k l, lenX (some ⟨y, q, .str, m⟩) rw (.v (.string z)) k l = k (.v (.int .i64 z.size))) ∧
  (∀ z q e es eb ez m rw r k l, lenX (some ⟨z, q, .sl e es eb ez, m⟩) rw (.row r) k l = lenR (nth rw r) k ⟨⟩) ∧
  (∀ e s els k l, lenR (some (.own e s els)) k l = if s = 0 then False else k (.v (.int .i64 els.length))) ∧
  (∀ m i k l, exX (.tup m) i k l = ex2 (nth m i) k ⟨⟩) ∧
  (∀ x k l, ex2 (some x) k l = k x) ∧
  (∀ b o k l, nilX (.box b o) k l = k (.box b o)) ∧
  (∀ b c k l, nilX (.pt b c) k l = k (.pt b c)) ∧
  (∀ f m k l, nilX (.clo f m) k l = k (.clo f m)) ∧
  (∀ a k l, nilX (.v (.pointer (some a))) k l = k (.v (.pointer (some a)))) ∧
  (∀ kd a j b k l, mmX false [.v (.int kd a), .v (.int j b)] k l = k (.v (.int kd (min a b)))) ∧
  (∀ kd a j b k l, mmX true [.v (.int kd a), .v (.int j b)] k l = k (.v (.int kd (max a b)))) ∧
  (∀ kd a j b h c k l, mmX false [.v (.int kd a), .v (.int j b), .v (.int h c)] k l = k (.v (.int kd (min (min a b) c)))) ∧
  (∀ s z fs e ps k l, buildX (some ⟨s, z, .st fs, e⟩) ps k l = bld2 (fillS fs (some (z.map ofV)) ps) k ⟨⟩) ∧
  (∀ s z n u es e ps k l, buildX (some ⟨s, z, .arr n u es, e⟩) ps k l = bld2 (fillA es (some (z.map ofV)) ps) k ⟨⟩) ∧
  (∀ es cs, fillA es (some cs) [] = some cs) ∧
  (∀ es cs i x ps, fillA es (some cs) ((i, x) :: ps) = fillA es (fil1 cs (some (i * es, es)) (cellsOf x)) ps) ∧
  (∀ cs k l, bld2 (some cs) k l = k (.agg cs)) ∧
  (∀ fs cs, fillS fs (some cs) [] = some cs) ∧
  (∀ fs cs i x ps, fillS fs (some cs) ((i, x) :: ps) = fillS fs (fil1 cs (nth fs i) (cellsOf x)) ps) ∧
  (∀ cs o n xs, fil1 cs (some (o, n)) (some xs) = if lenN xs = n then putL cs o xs else none) := by
 refine ⟨?_, ?_, ?_, ?_, ?_, ?_, ?_, ?_, ?_, ?_, ?_, ?_, ?_, ?_, ?_, ?_, ?_, ?_, ?_, ?_, ?_, ?_, ?_, ?_, ?_, ?_, ?_, ?_, ?_, ?_, ?_, ?_, ?_, ?_, ?_, ?_, ?_, ?_, ?_, ?_, ?_⟩ <;> (intros; first | rfl | exact leV_any _ _ _ | (simp [rowsIn, putL, callX, opX, qX, pass, passQ, stK, BrW, slcX, bin2X, leV, leL, leR, leR1, kpV, kpVL, kpD, kpL, kpLL, kpR, toD]; done) | (simp only [BrW, Bool.not_eq_true', Bool.not_eq_false']; exact propext and_comm))
theorem sxF4_1 :
  (∀ st, frzX [] st = st) ∧
  (∀ r rs st, frzX (r :: rs) st = frzX rs (frz2 (nth st.rw r) r st)) ∧
  (∀ e s els r tm bx rw, frz2 (some (.own e s els)) r ⟨tm, bx, rw⟩ = if s = 0 then ⟨tm, bx, rw⟩ else ⟨tm, bx, setN rw r (.frz s els)⟩) ∧
  (∀ s els r st, frz2 (some (.frz s els)) r st = st) ∧
  (∀ tm bx rw t cs, newBox ⟨tm, bx, rw⟩ t cs = ⟨tm, bx ++ [some ⟨t, cs⟩], rw⟩) ∧
  (∀ tm bx rw t s e, newRow ⟨tm, bx, rw⟩ t s e = ⟨tm, bx, rw ++ [.own t s e]⟩) ∧
  (∀ ti t st K l, allocX (some ti) t st K l = pass (.box (lenN st.bx) 0) (newBox st t (ti.zero.map ofV)) K ⟨⟩) ∧
  (∀ a b c d, TI.zero ⟨a, b, c, d⟩ = b) ∧
  (∀ a b c d, TI.size ⟨a, b, c, d⟩ = a) ∧
  (∀ t x st K l, boxX t x st K l = box2 t (cellsOf x) st K ⟨⟩) ∧
  (∀ t cs st K l, box2 t (some cs) st K l = pass (.box (lenN st.bx) 0) (newBox st t cs) K ⟨⟩) ∧
  (∀ ti b o y st K l, storeX (some ti) (.box b o) y st K l = stB ti b o (nth st.bx b) (cellsOf (st.ev y)) st K ⟨⟩) ∧
  (∀ ti b o t c cs st K l, stB ti b o (some (some ⟨t, c⟩)) (some cs) st K l = stB2 ti b t (putL c o cs) cs st K ⟨⟩) ∧
  (∀ ti b t cells cs tm bx rw K l, stB2 ti b t (some cells) cs ⟨tm, bx, rw⟩ K l = (lenN cs = ti.size ∧ onesS cs = true ∧ pass .any ⟨tm, setN bx b (some ⟨t, cells⟩), rw⟩ K ⟨⟩)) ∧
  (∀ ti r i s o y st K l, storeX (some ti) (.relt r i s o) y st K l = armX (look st.tm 1000000) (st.ev y) st (stA ti r i s o y K) ⟨⟩) ∧
  (∀ ti r i s o y K tm bx rw l, stR0 ti r i s o y K ⟨tm, bx, rw⟩ l = stR ti r i s o (nth rw r) (toDO rw (cellsOf (hevE (look tm 1000000) (St.ev ⟨tm, bx, rw⟩ y)))) ⟨tm, bx, rw⟩ K ⟨⟩) ∧
  (∀ ti r i s o e s' els vs st K l, stR ti r i s o (some (.own e s' els)) vs st K l = if s' = s then stR2 ti r i s o e els vs st K ⟨⟩ else False) ∧
  (∀ ti r i s o e els vs tm bx rw K l, stR2 ti r i s o e els (some vs) ⟨tm, bx, rw⟩ K l = Vc (i.toNat < els.length) (lenN vs = ti.size ∧ o + ti.size ≤ s ∧ pass .any ⟨tm, bx, setN rw r (.own e s (els.modify i.toNat (modE · o vs)))⟩ K ⟨⟩) ⟨⟩) := by
 refine ⟨?_, ?_, ?_, ?_, ?_, ?_, ?_, ?_, ?_, ?_, ?_, ?_, ?_, ?_, ?_, ?_, ?_, ?_⟩ <;> (intros; first | rfl | exact leV_any _ _ _ | (simp [rowsIn, putL, callX, opX, qX, pass, passQ, stK, BrW, slcX, bin2X, leV, leL, leR, leR1, kpV, kpVL, kpD, kpL, kpLL, kpR, toD]; done) | (simp only [BrW, Bool.not_eq_true', Bool.not_eq_false']; exact propext and_comm))
theorem sxF5_0 :
  (∀ z q e es eb ez m n ps K st l, bsX (some ⟨z, q, .sl e es eb ez, m⟩) n ps K st l = bs2 e es n (elsOf st.rw es 0 ps) st K ⟨⟩) ∧
  (∀ ti n ps K tm bx rw l, bsK ti n ps K ⟨tm, bx, rw⟩ l = bsX ti n (ps.map fun p => (p.1, hevE (look tm 1000000) (St.ev ⟨tm, bx, rw⟩ p.2))) K ⟨tm, bx, rw⟩ ⟨⟩) ∧
  (∀ e es n els st K l, bs2 e es n (some els) st K l = (lenN els = n ∧ n * es ≤ 16777216 ∧ pass (.row (lenN st.rw)) (newRow st e es els) K ⟨⟩)) ∧
  (∀ rw es i, elsOf rw es i [] = some []) ∧
  (∀ rw es i j x l, elsOf rw es i ((j, x) :: l) = if i = j then el3 es (toDO rw (cellsOf x)) (elsOf rw es (i + 1) l) else none) ∧
  (∀ es vs els, el3 es (some vs) (some els) = if lenN vs = es then some (vs :: els) else none) ∧
  (∀ z q e es eb ez m j a j' b st K l, mkX (some ⟨z, q, .sl e es eb ez, m⟩) (.v (.int j a)) (.v (.int j' b)) st K l = Vc (0 ≤ a ∧ a ≤ b ∧ (eb : Int) * b ≤ 281474976710656) (pass (.row (lenN st.rw)) (newRow st e es (List.replicate a.toNat (ez.map D.v))) K ⟨⟩) ⟨⟩) ∧
  (∀ z q e es eb ez m y st K l, appX (some ⟨z, q, .sl e es eb ez, m⟩) (.v (.slice none 0 0)) y st K l = app2 st es y (appK e es eb [] none st K) ⟨⟩) ∧
  (∀ z q e es eb ez m r y st K l, appX (some ⟨z, q, .sl e es eb ez, m⟩) (.row r) y st K l = appR e es eb r (nth st.rw r) y st K ⟨⟩) ∧
  (∀ e es eb r e' s' els y st K l, appR e es eb r (some (.own e' s' els)) y st K l = if e = e' ∧ s' = es then app2 st es y (appK e es eb els (some r) st K) ⟨⟩ else False) ∧
  (∀ st es r k l, app2 st es (.row r) k l = ap3 (nth st.rw r) es k ⟨⟩) ∧
  (∀ e s els es k l, ap3 (some (.own e s els)) es k l = if s = es then k els else False) ∧
  (∀ st es b s els k l, app2 st es (.sl b s els) k l = if s = es then k els else False) ∧
  (∀ st es k l, app2 st es (.v (.slice none 0 0)) k l = k []) ∧
  (∀ e es eb els1 tm bx rw K els2, appK e es eb els1 none ⟨tm, bx, rw⟩ K els2 = Vc ((els1.length + els2.length) * eb ≤ 140737488355328) (pass (.row (lenN rw)) ⟨tm, bx, rw ++ [.own e es (els1 ++ els2)]⟩ K ⟨⟩) ⟨⟩) ∧
  (∀ e es eb els1 r tm bx rw K els2, appK e es eb els1 (some r) ⟨tm, bx, rw⟩ K els2 = Vc ((els1.length + els2.length) * eb ≤ 140737488355328) (pass (.row (lenN rw)) ⟨tm, bx, setN rw r .gone ++ [.own e es (els1 ++ els2)]⟩ K ⟨⟩) ⟨⟩) ∧
  (∀ z q e es eb ez m z' q' k' m' j n st K l, apzX (some ⟨z, q, .sl e es eb ez, m⟩) (some ⟨z', q', .int k', m'⟩) (.v (.slice none 0 0)) (.v (.int j n)) st K l = Vc (0 < n ∧ n * eb ≤ 140737488355328) (pass (.row (lenN st.rw)) (newRow st e es (List.replicate n.toNat (ez.map D.v))) K ⟨⟩) ⟨⟩) ∧
  (∀ ti r x hi st K l, slcX ti (.row r) x none hi st K l = trX ti r (nth st.rw r) (hi.map st.ev) st K ⟨⟩) ∧
  (∀ ti r x lo hi st K l, slcX ti (.row r) x (some lo) hi st K l = slR ti x (some lo) hi K (frzX [r] st) ⟨⟩) ∧
  (∀ ti b s e x lo hi st K l, slcX ti (.sl b s e) x lo hi st K l = sliX ti (.sl b s e) (lo.map st.ev) (hi.map st.ev) (stK K st) ⟨⟩) ∧
  (∀ ti y x lo hi st K l, slcX ti (.v y) x lo hi st K l = sliX ti (.v y) (lo.map st.ev) (hi.map st.ev) (stK K st) ⟨⟩) ∧
  (∀ ti x lo hi K tm bx rw l, slR ti x lo hi K ⟨tm, bx, rw⟩ l = sliX ti (St.ev ⟨tm, bx, rw⟩ x) (lo.map (St.ev ⟨tm, bx, rw⟩)) (hi.map (St.ev ⟨tm, bx, rw⟩)) (stK K ⟨tm, bx, rw⟩) ⟨⟩) ∧
  (∀ z q e es eb ez m r e' s els j h tm bx rw K l, trX (some ⟨z, q, .sl e es eb ez, m⟩) r (some (.own e' s els)) (some (.v (.int j h))) ⟨tm, bx, rw⟩ K l = if e = e' ∧ s = es then Vc (0 ≤ h ∧ h ≤ (els.length : Int)) (pass (.row (lenN rw)) ⟨tm, bx, setN rw r .gone ++ [.own e es (els.take h.toNat)]⟩ K ⟨⟩) ⟨⟩ else False) ∧
  (∀ s z e es eb ez q b sz els j i k l, sliX (some ⟨s, z, .sl e es eb ez, q⟩) (.sl b sz els) (some (.v (.int j i))) none k l = if sz = es then Vc (0 ≤ i ∧ i ≤ els.length) (k (.sl b sz (els.drop i.toNat))) ⟨⟩ else False) ∧
  (∀ s z e es eb ez q b sz els j i k l, sliX (some ⟨s, z, .sl e es eb ez, q⟩) (.sl b sz els) none (some (.v (.int j i))) k l = if sz = es then Vc (0 ≤ i ∧ i ≤ els.length) (k (.sl b sz (els.take i.toNat))) ⟨⟩ else False) ∧
  (∀ s z e es eb ez q b sz els j i j' i' k l, sliX (some ⟨s, z, .sl e es eb ez, q⟩) (.sl b sz els) (some (.v (.int j i))) (some (.v (.int j' i'))) k l = if sz = es then Vc (0 ≤ i ∧ i ≤ i' ∧ i' ≤ els.length) (k (.sl b sz ((els.drop i.toNat).take (i'.toNat - i.toNat)))) ⟨⟩ else False) ∧
  (∀ s z e es eb ez q j i k l, sliX (some ⟨s, z, .sl e es eb ez, q⟩) (.v (.slice none 0 0)) (some (.v (.int j i))) none k l = Vc (0 ≤ i ∧ i ≤ 0) (k (.v (.slice none 0 0))) ⟨⟩) ∧
  (∀ s z e es eb ez q j i k l, sliX (some ⟨s, z, .sl e es eb ez, q⟩) (.v (.slice none 0 0)) none (some (.v (.int j i))) k l = Vc (0 ≤ i ∧ i ≤ 0) (k (.v (.slice none 0 0))) ⟨⟩) ∧
  (∀ s z e es eb ez q j i j' i' k l, sliX (some ⟨s, z, .sl e es eb ez, q⟩) (.v (.slice none 0 0)) (some (.v (.int j i))) (some (.v (.int j' i'))) k l = Vc (0 ≤ i ∧ i ≤ i' ∧ i' ≤ 0) (k (.v (.slice none 0 0))) ⟨⟩) ∧
  (∀ s z q x j i k l, sliX (some ⟨s, z, .str, q⟩) (.v (.string x)) (some (.v (.int j i))) none k l = Vc (0 ≤ i ∧ i ≤ x.size) (k (.v (.string (x.extract i.toNat x.size)))) ⟨⟩) ∧
  (∀ s z q x j i k l, sliX (some ⟨s, z, .str, q⟩) (.v (.string x)) none (some (.v (.int j i))) k l = Vc (0 ≤ i ∧ i ≤ x.size) (k (.v (.string (x.extract 0 i.toNat)))) ⟨⟩) ∧
  (∀ s z q x j i j' i' k l, sliX (some ⟨s, z, .str, q⟩) (.v (.string x)) (some (.v (.int j i))) (some (.v (.int j' i'))) k l = Vc (0 ≤ i ∧ i ≤ i' ∧ i' ≤ x.size) (k (.v (.string (x.extract i.toNat i'.toNat)))) ⟨⟩) ∧
  (∀ z q e es eb ez m b s els st K l, capX (some ⟨z, q, .sl e es eb ez, m⟩) (.sl b s els) st K l = capC els st K ⟨⟩) ∧
  (∀ z q e es eb ez m st K l, capX (some ⟨z, q, .sl e es eb ez, m⟩) (.v (.slice none 0 0)) st K l = K (.v (.int .i64 (0 : Nat))) st) ∧
  (∀ z q e es eb ez m r st K l, capX (some ⟨z, q, .sl e es eb ez, m⟩) (.row r) st K l = capR (nth st.rw r) st K ⟨⟩) ∧
  (∀ e s els st K l, capR (some (.own e s els)) st K l = if s = 0 then False else capC els st K ⟨⟩) ∧
  (∀ els st K l, capC els st K l = ∀ c : Nat, els.length ≤ c → K (.v (.int .i64 c)) st) ∧
  (∀ C f m args st K l, callX C (.clo f m) args st K l = CallI C f (args ++ m) st K ⟨⟩) ∧
  (∀ C f cs args st K l, callX C (.v (.func (.func f) ⟨[]⟩ ⟨cs⟩)) args st K l = CallI C f (args ++ cs.map .v) st K ⟨⟩) ∧
  (∀ T st, ressS T st [] = some []) := by
 refine ⟨?_, ?_, ?_, ?_, ?_, ?_, ?_, ?_, ?_, ?_, ?_, ?_, ?_, ?_, ?_, ?_, ?_, ?_, ?_, ?_, ?_, ?_, ?_, ?_, ?_, ?_, ?_, ?_, ?_, ?_, ?_, ?_, ?_, ?_, ?_, ?_, ?_, ?_, ?_, ?_⟩ <;> (intros; first | rfl | exact leV_any _ _ _ | (simp [rowsIn, putL, callX, opX, qX, pass, passQ, stK, BrW, slcX, bin2X, leV, leL, leR, leR1, kpV, kpVL, kpD, kpL, kpLL, kpR, toD]; done) | (simp only [BrW, Bool.not_eq_true', Bool.not_eq_false']; exact propext and_comm))
theorem sxF5_1 :
  (∀ T st r rs, ressS T st (r :: rs) = consO (resS T st r) (ressS T st rs)) ∧
  (∀ T st t, resS T st (.tmp t) = some (norm st.rw (look st.tm t))) ∧
  (∀ T st t ty, resS T st (.cell t ty) = re2 st (norm st.rw (look st.tm t)) (tlook T ty)) ∧
  (∀ st b o s z kd e, re2 st (.box b o) (some ⟨s, z, kd, e⟩) = re3 st.rw kd.agg (bcells st.bx b o s)) ∧
  (∀ rw cs, re3 rw true (some cs) = some (.agg cs)) ∧
  (∀ rw c, re3 rw false (some [c]) = some (norm rw c)) ∧
  (∀ x, tupV [x] = x) ∧
  (∀ x y l, tupV (x :: y :: l) = .tup (x :: y :: l)) ∧
  (tupV [] = .tup []) ∧
  (∀ rw, normDL rw [] = []) ∧
  (∀ rw x l, normDL rw (x :: l) = normD rw x :: normDL rw l) ∧
  (∀ rw k, normD rw (.row k) = norm rw (.row k)) ∧
  (∀ rw l, normD rw (.agg l) = .agg (normDL rw l)) ∧
  (∀ rw l, normD rw (.tup l) = .tup (normDL rw l)) ∧
  (∀ rw, normD rw .any = .any) ∧
  (∀ rw x, normD rw (.v x) = .v x) ∧
  (∀ rw b s e, normD rw (.sl b s e) = .sl b s e) ∧
  (∀ rw b c, normD rw (.pt b c) = .pt b c) ∧
  (∀ rw k o, normD rw (.box k o) = .box k o) ∧
  (∀ rw f l, normD rw (.clo f l) = .clo f l) := by
 refine ⟨?_, ?_, ?_, ?_, ?_, ?_, ?_, ?_, ?_, ?_, ?_, ?_, ?_, ?_, ?_, ?_, ?_, ?_, ?_, ?_⟩ <;> (intros; first | rfl | exact leV_any _ _ _ | (simp [rowsIn, putL, callX, opX, qX, pass, passQ, stK, BrW, slcX, bin2X, leV, leL, leR, leR1, kpV, kpVL, kpD, kpL, kpLL, kpR, toD]; done) | (simp only [BrW, Bool.not_eq_true', Bool.not_eq_false']; exact propext and_comm))
theorem sxF6_0 :
  (onesS [] = true) ∧
  (∀ x l, onesS (x :: l) = (oneS x && onesS l)) ∧
  (∀ b s e, oneS (.sl b s e) = true) ∧
  (∀ b c, oneS (.pt b c) = true) ∧
  (∀ k o, oneS (.box k o) = true) ∧
  (∀ k, oneS (.row k) = true) ∧
  (∀ f l, oneS (.clo f l) = true) ∧
  (∀ k i a b, oneS (.relt k i a b) = true) ∧
  (oneV .nilFunc = true) ∧
  (oneV .nilIface = true) ∧
  (∀ f a b, oneV (.func f a b) = true) ∧
  (∀ t v, oneV (.iface t v) = true) ∧
  (oneS (.v .nilFunc) = true) ∧
  (oneS (.v .nilIface) = true) ∧
  (∀ f a b, oneS (.v (.func f a b)) = true) ∧
  (∀ t v, oneS (.v (.iface t v)) = true) ∧
  (∀ k n, oneS (.v (.int k n)) = true) ∧
  (∀ k n, oneV (.int k n) = true) ∧
  (∀ k, oneS (.v (.bool k)) = true) ∧
  (∀ k, oneV (.bool k) = true) ∧
  (∀ k, oneS (.v (.string k)) = true) ∧
  (∀ k, oneV (.string k) = true) ∧
  (∀ k n m, oneS (.v (.slice k n m)) = true) ∧
  (∀ k n m, oneV (.slice k n m) = true) ∧
  (∀ k, oneS (.v (.pointer k)) = true) ∧
  (∀ k, oneV (.pointer k) = true) ∧
  (∀ k, oneS (.v (.map k)) = true) ∧
  (∀ k, oneV (.map k) = true) ∧
  (∀ A B l, BrW true A B l = A) ∧
  (∀ A B l, BrW false A B l = B) ∧
  (∀ b A B l, BrW (!b) A B l = BrW b B A ⟨⟩) := by
 refine ⟨?_, ?_, ?_, ?_, ?_, ?_, ?_, ?_, ?_, ?_, ?_, ?_, ?_, ?_, ?_, ?_, ?_, ?_, ?_, ?_, ?_, ?_, ?_, ?_, ?_, ?_, ?_, ?_, ?_, ?_, ?_⟩ <;> (intros; first | rfl | exact leV_any _ _ _ | (simp [rowsIn, putL, callX, opX, qX, pass, passQ, stK, BrW, slcX, bin2X, leV, leL, leR, leR1, kpV, kpVL, kpD, kpL, kpLL, kpR, toD]; done) | (simp only [BrW, Bool.not_eq_true', Bool.not_eq_false']; exact propext and_comm))
theorem sxM_0 :
  (∀ z q kk m zz t st K l, mmpX (some ⟨z, q, .mp kk zz, m⟩) t st K l = pass (.row (lenN st.rw)) (newRow st t 0 []) K ⟨⟩) ∧
  (∀ z q kk m i a r key ok st K l, lkX (some ⟨z, q, .mp kk (.int i a), m⟩) (.row r) (.v key) ok st K l = lkR kk (.int i a) key ok (nth st.rw r) st K ⟨⟩) ∧
  (∀ z q kk m a r key ok st K l, lkX (some ⟨z, q, .mp kk (.bool a), m⟩) (.row r) (.v key) ok st K l = lkR kk (.bool a) key ok (nth st.rw r) st K ⟨⟩) ∧
  (∀ z q kk m a r key ok st K l, lkX (some ⟨z, q, .mp kk (.string a), m⟩) (.row r) (.v key) ok st K l = lkR kk (.string a) key ok (nth st.rw r) st K ⟨⟩) ∧
  (∀ z q kk m r key ok st K l, lkX (some ⟨z, q, .mp kk (.slice none 0 0), m⟩) (.row r) (.v key) ok st K l = lkG kk key ok (nth st.rw r) st K ⟨⟩) ∧
  (∀ kk key ok e s els st K l, lkG kk key ok (some (.own e s els)) st K l = (s = 0 ∧ keyIs kk key = true ∧ entsKD kk els = true ∧ pass (lkDV ok (lkD key els)) st K ⟨⟩)) ∧
  (∀ x, lkDV false x = ofD (x.getD nilD)) ∧
  (∀ x, lkDV true x = .tup [ofD (x.getD nilD), .v (.bool x.isSome)]) ∧
  (∀ kk, entsKD kk [] = true) ∧
  (∀ z q kk m zz r key b sz vl st K l, upX (some ⟨z, q, .mp kk zz, m⟩) (.row r) (.v key) (.sl b sz vl) st K l = upG kk key (.sl b sz vl) r (nth st.rw r) st K ⟨⟩) ∧
  (∀ kk key d r e s els tm bx rw K l, upG kk key d r (some (.own e s els)) ⟨tm, bx, rw⟩ K l = (s = 0 ∧ keyIs kk key = true ∧ entsKD kk els = true ∧ pass .any ⟨tm, bx, setN rw r (.own e s (upD key d els))⟩ K ⟨⟩)) ∧
  (∀ kk zz key ok e s els st K l, lkR kk zz key ok (some (.own e s els)) st K l = (s = 0 ∧ keyIs kk key = true ∧ entsOk kk els = true ∧ pass (lkV ok zz (lkE key els)) st K ⟨⟩)) ∧
  (∀ z x, lkV false z x = .v (x.getD z)) ∧
  (∀ z x, lkV true z x = .tup [.v (x.getD z), .v (.bool x.isSome)]) ∧
  (∀ i a, keyIs (some i) (.int i a) = true) ∧
  (∀ s, keyIs none (.string s) = true) ∧
  (∀ kk, entsOk kk [] = true) ∧
  (∀ z q kk m zz r key val st K l, upX (some ⟨z, q, .mp kk zz, m⟩) (.row r) (.v key) (.v val) st K l = upR kk key val r (nth st.rw r) st K ⟨⟩) ∧
  (∀ kk key val r e s els tm bx rw K l, upR kk key val r (some (.own e s els)) ⟨tm, bx, rw⟩ K l = (s = 0 ∧ keyIs kk key = true ∧ entsOk kk els = true ∧ pass .any ⟨tm, bx, setN rw r (.own e s (upE key val els))⟩ K ⟨⟩)) := by
 refine ⟨?_, ?_, ?_, ?_, ?_, ?_, ?_, ?_, ?_, ?_, ?_, ?_, ?_, ?_, ?_, ?_, ?_, ?_, ?_⟩ <;> (intros; first | rfl | simp [keyIs, lkV, lkDV])
theorem sxL_0 :
  (∀ β γ x, leV β γ x .any = True) ∧
  (∀ β γ x y, leV β γ (.v x) (.v y) = (x = y)) ∧
  (∀ β γ x b s e, leV β γ (.v x) (.sl b s e) = (x = .slice none 0 0 ∧ e = [])) ∧
  (∀ β γ x k', leV β γ (.v x) (.row k') = (x = .slice none 0 0 ∧ nth γ k' = some none)) ∧
  (∀ β γ b s e b' s' e', leV β γ (.sl b s e) (.sl b' s' e') = (b = b' ∧ s = s' ∧ e = e')) ∧
  (∀ β γ b c b' c', leV β γ (.pt b c) (.pt b' c') = (b = b' ∧ c = c')) ∧
  (∀ β γ k o k' o', leV β γ (.box k o) (.box k' o') = (o = o' ∧ nth β k' = some k)) ∧
  (∀ β γ k k', leV β γ (.row k) (.row k') = (nth γ k' = some (some k))) ∧
  (∀ β γ l l', leV β γ (.agg l) (.agg l') = leL β γ l l') ∧
  (∀ β γ l l', leV β γ (.tup l) (.tup l') = leL β γ l l') ∧
  (∀ β γ f l f' l', leV β γ (.clo f l) (.clo f' l') = (f = f' ∧ leL β γ l l')) ∧
  (∀ β γ, leL β γ [] [] = True) ∧
  (∀ β γ x l y l', leL β γ (x :: l) (y :: l') = (leV β γ x y ∧ leL β γ l l')) ∧
  (∀ rw, leR rw [] [] = True) ∧
  (∀ rw e s els l r ks, leR rw (.own e s els :: l) (some r :: ks) = (leR1 (nth rw r) e s els ∧ leR rw l ks)) ∧
  (∀ rw e s els l ks, leR rw (.own e s els :: l) (none :: ks) = (els = [] ∧ 0 < s ∧ leR rw l ks)) ∧
  (∀ e s els e' s' els', leR1 (some (.own e s els)) e' s' els' = (e = e' ∧ s = s' ∧ els = els')) ∧
  (kpV .any = True) ∧
  (∀ x, kpV (.v x) = True) ∧
  (∀ b s e, kpV (.sl b s e) = (b = true ∧ kpLL e)) ∧
  (∀ b c, kpV (.pt b c) = (b = true ∧ kpL c)) ∧
  (∀ k, kpV (.row k) = True) ∧
  (∀ l, kpV (.agg l) = kpVL l) ∧
  (∀ l, kpV (.tup l) = kpVL l) ∧
  (∀ f l, kpV (.clo f l) = kpVL l) ∧
  (kpVL [] = True) ∧
  (∀ x l, kpVL (x :: l) = (kpV x ∧ kpVL l)) ∧
  (∀ x, kpD (.v x) = True) ∧
  (∀ b s e, kpD (.sl b s e) = (b = true ∧ kpLL e)) ∧
  (∀ b c, kpD (.pt b c) = (b = true ∧ kpL c)) ∧
  (∀ f l, kpD (.clo f l) = kpL l) ∧
  (kpL [] = True) ∧
  (∀ x l, kpL (x :: l) = (kpD x ∧ kpL l)) ∧
  (kpLL [] = True) ∧
  (∀ x l, kpLL (x :: l) = (kpL x ∧ kpLL l)) ∧
  (kpR [] = True) ∧
  (∀ e s els l, kpR (.own e s els :: l) = (kpLL els ∧ kpR l)) := by
 refine ⟨?_, ?_, ?_, ?_, ?_, ?_, ?_, ?_, ?_, ?_, ?_, ?_, ?_, ?_, ?_, ?_, ?_, ?_, ?_, ?_, ?_, ?_, ?_, ?_, ?_, ?_, ?_, ?_, ?_, ?_, ?_, ?_, ?_, ?_, ?_, ?_, ?_⟩ <;> (intros; first | rfl | exact leV_any _ _ _ | (simp [rowsIn, putL, callX, opX, qX, pass, passQ, stK, BrW, slcX, bin2X, leV, leL, leR, leR1, kpV, kpVL, kpD, kpL, kpLL, kpR, toD]; done) | (simp only [BrW, Bool.not_eq_true', Bool.not_eq_false']; exact propext and_comm))
theorem sxD : type_of% (And.intro sxC_0 sxO_0) := And.intro sxC_0 sxO_0
theorem sxF : type_of% (And.intro sxF1_0 (And.intro sxF1_1 (And.intro sxF2_0 (And.intro sxF2_1 (And.intro sxF3_0 (And.intro sxF3_1 (And.intro sxF4_0 (And.intro sxF4_1 (And.intro sxF5_0 (And.intro sxF5_1 (And.intro sxF6_0 sxM_0))))))))))) := And.intro sxF1_0 (And.intro sxF1_1 (And.intro sxF2_0 (And.intro sxF2_1 (And.intro sxF3_0 (And.intro sxF3_1 (And.intro sxF4_0 (And.intro sxF4_1 (And.intro sxF5_0 (And.intro sxF5_1 (And.intro sxF6_0 sxM_0))))))))))
theorem sxL : type_of% (sxL_0) := sxL_0

end Go.Vx
