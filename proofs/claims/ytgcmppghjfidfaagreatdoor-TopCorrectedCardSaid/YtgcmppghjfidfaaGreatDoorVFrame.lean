/-
 From a contract over plain data to a statement of the given form: what an argument's reading says of its data, and the row's last step.
-/
import Derived.Test.YtgcmppghjfidfaaGreatDoorVLib
import Derived.Carry
import Derived.OpenShut
import Derived.ChangeSame
import Derived.ProofKit
import Derived.Deep.Slices
namespace Go.Vx
open Go Go.RowKit Go.ChangeShapes Go.WideShapes Go.Deep

/-! ### Shapes of data -/
inductive Sh where
 | int (k : IntKind)
 | bool
 | str
 | sl (l : List Sh)

mutual
def HasSh : Sh → D → Prop
 | .int k, d => ∃ n : Int, d = .v (.int k n) ∧ (Lit.int k n).wf = true
 | .bool, d => ∃ b : Bool, d = .v (.bool b)
 | .str, d => ∃ s : ByteArray, d = .v (.string s) ∧ s.size ≤ maxLen
 | .sl l, d => ∃ els : List (List D), d = .sl true l.length els ∧ els.length ≤ maxLen ∧ ∀ e ∈ els, HasShL l e
def HasShL : List Sh → List D → Prop
 | [], ds => ds = []
 | s :: l, ds => ∃ (d : D) (ds' : List D), ds = d :: ds' ∧ HasSh s d ∧ HasShL l ds'
end
def HasShLL : List (List Sh) → List (List D) → Prop
 | [], dss => dss = []
 | s :: l, dss => ∃ (d : List D) (ds' : List (List D)), dss = d :: ds' ∧ HasShL s d ∧ HasShLL l ds'

theorem HasShL.len : ∀ {l : List Sh} {ds : List D}, HasShL l ds → ds.length = l.length
 | [], _, h => by simp only [HasShL] at h; subst h; rfl
 | _ :: l, _, h => by
  simp only [HasShL] at h
  obtain ⟨d, ds', rfl, _, h⟩ := h
  simp [HasShL.len h]
theorem HasShL.append : ∀ {l l' : List Sh} {ds ds' : List D}, HasShL l ds → HasShL l' ds' → HasShL (l ++ l') (ds ++ ds')
 | [], _, _, _, h, h' => by simp only [HasShL] at h; subst h; exact h'
 | _ :: l, _, _, _, h, h' => by
  simp only [HasShL] at h
  obtain ⟨d, ds', rfl, h1, h⟩ := h
  simp only [List.cons_append, HasShL]
  exact ⟨d, _, rfl, h1, HasShL.append h h'⟩

def joinFs (P : Program) : List Field → List (List Sh) → Nat → Option (List Sh)
 | [], [], _ => some []
 | f :: fs, l :: ls, o => if f.offset = o ∧ l.length = P.cellsOf f.type then (joinFs P fs ls (o + l.length)).map (l ++ ·) else none
 | _, _, _ => none

def shOf (P : Program) : Nat → TypeId → Option (List Sh)
 | 0, _ => none
 | n + 1, t => match P.underlying t with
  | some .bool => some [.bool]
  | some (.int k) => some [.int k]
  | some .string => some [.str]
  | some (.slice e) => (shOf P n e).bind fun l => if l.length = P.cellsOf e then some [.sl l] else none
  | some (.struct fs) => (fs.toList.mapM fun f => shOf P n f.type).bind fun ls => (joinFs P fs.toList ls 0).bind fun l => if l.length = P.cellsOf t then some l else none
  | some (.array m e) => (shOf P n e).bind fun l => if l.length = P.cellsOf e ∧ m * l.length = P.cellsOf t then some (List.replicate m l).flatten else none
  | _ => none

theorem cell_all (w : World) (a : Addr) : Hp.cell (fun b => w.heap[b]?) a = w.cell? a := rfl

theorem pick_list {α : Type} {Q : Nat → α → Prop} : ∀ n : Nat, (∀ i, i < n → ∃ e, Q i e) → ∃ l : List α, l.length = n ∧ ∀ i e, l[i]? = some e → Q i e
 | 0, _ => ⟨[], rfl, by simp⟩
 | n + 1, h => by
  obtain ⟨l, h1, h2⟩ := pick_list n fun i hi => h i (by omega)
  obtain ⟨e, he⟩ := h n (by omega)
  refine ⟨l ++ [e], by simp [h1], fun i x hx => ?_⟩
  by_cases hi : i < n
  ·exact h2 i x (by rwa [List.getElem?_append_left (by omega)] at hx)
  ·have hin : i = n := by
    have := (List.getElem?_eq_some_iff.1 hx).1
    simp [h1] at this; omega
   subst hin
   rw [List.getElem?_append_right (by omega), h1] at hx
   simp at hx
   subst hx; exact he

theorem RdE.ofGet {μ : Mu} {b : Bool} {A : Option Addr} {sz : Nat} : ∀ {l : List (List D)} {i : Nat}, (∀ k e, l[k]? = some e → e.length = sz ∧ ∃ ad, A = some ad ∧ RdC μ e b (ad.add ((i + k) * sz)) 0) → RdE μ l b A sz i
 | [], _, _ => by simp [RdE]
 | e :: l, i, h => by
  simp only [RdE]
  refine ⟨by simpa using h 0 e rfl, RdE.ofGet fun k x hk => ?_⟩
  have := h (k + 1) x (by simpa using hk)
  rwa [show i + (k + 1) = i + 1 + k by omega] at this

theorem join_open {P : Program} {μ : Mu} {cs : List Value} : ∀ {fs : List Field} {ls : List (List Sh)} {o : Nat} {l : List Sh}, joinFs P fs ls o = some l →
  (∀ (i : Nat) (f : Field), fs[i]? = some f → ∃ lf, ls[i]? = some lf ∧ ∃ ds, RdL μ ds ((cs.drop f.offset).take (P.cellsOf f.type)) ∧ HasShL lf ds) → cs.length = o + l.length → ∃ ds, RdL μ ds (cs.drop o) ∧ HasShL l ds
 | [], [], o, l, h, _, hl => by
  simp only [joinFs, Option.some.injEq] at h
  subst h
  refine ⟨[], ?_, by simp [HasShL]⟩
  rw [List.drop_of_length_le (by simpa using Nat.le_of_eq hl)]
  simp [RdL]
 | f :: fs, lf :: ls, o, l, h, hf, hl => by
  simp only [joinFs] at h
  split at h
  ·rename_i hc
   simp only [Option.map_eq_some_iff] at h
   obtain ⟨l', h1, rfl⟩ := h
   obtain ⟨lf', e, ds, k1, k2⟩ := hf 0 f rfl
   simp at e; subst e
   obtain ⟨ds', k3, k4⟩ := join_open h1 (fun i f' hi => by simpa using hf (i + 1) f' (by simpa using hi)) (by simp at hl; omega)
   refine ⟨ds ++ ds', ?_, k2.append k4⟩
   have : cs.drop o = (cs.drop o).take lf.length ++ cs.drop (o + lf.length) := by
    rw [← List.drop_drop, List.take_append_drop]
   rw [this]
   refine RdL.append ?_ k3
   rwa [hc.1, ← hc.2] at k1
  ·cases h
 | [], _ :: _, _, _, h, _, _ => by simp [joinFs] at h
 | _ :: _, [], _, _, h, _, _ => by simp [joinFs] at h

theorem arr_open {μ : Mu} {cs : List Value} {l : List Sh} : ∀ (m o : Nat), (∀ i, i < m → ∃ ds, RdL μ ds ((cs.drop ((o + i) * l.length)).take l.length) ∧ HasShL l ds) → cs.length = (o + m) * l.length → ∃ ds, RdL μ ds (cs.drop (o * l.length)) ∧ HasShL (List.replicate m l).flatten ds
 | 0, o, _, hl => by
  refine ⟨[], ?_, by simp [HasShL]⟩
  rw [List.drop_of_length_le (by simpa using Nat.le_of_eq hl)]
  simp [RdL]
 | m + 1, o, hf, hl => by
  obtain ⟨ds, k1, k2⟩ := hf 0 (by omega)
  obtain ⟨ds', k3, k4⟩ := arr_open (l := l) m (o + 1) (fun i hi => by
   have := hf (i + 1) (by omega)
   rwa [show o + (i + 1) = o + 1 + i by omega] at this) (by rw [hl]; congr 1; omega)
  refine ⟨ds ++ ds', ?_, by rw [List.replicate_succ, List.flatten_cons]; exact k2.append k4⟩
  have : cs.drop (o * l.length) = (cs.drop (o * l.length)).take l.length ++ cs.drop ((o + 1) * l.length) := by
   rw [Nat.succ_mul, ← List.drop_drop, List.take_append_drop]
  rw [this]
  exact RdL.append k1 k3

theorem mapM_get {α β : Type} {g : α → Option β} : ∀ {l : List α} {r : List β}, l.mapM g = some r → ∀ (i : Nat) (a : α), l[i]? = some a → ∃ b, r[i]? = some b ∧ g a = some b
 | [], _, _, _, _, h => by simp at h
 | x :: l, r, hr, i, a, h => by
  simp only [List.mapM_cons, Option.bind_eq_bind, Option.bind_eq_some_iff, Option.pure_def, Option.some.injEq] at hr
  obtain ⟨y, h1, ys, h2, rfl⟩ := hr
  cases i with
  | zero => simp at h; subst h; exact ⟨y, rfl, h1⟩
  | succ i => simpa using mapM_get h2 i a (by simpa using h)

section
variable {H : Type} {enc : TypeId × Value → H} {P : Program} {w : World} {base : Nat} {spare : Nat → Bool} {held : Bool}
theorem sh_open {μ : Mu} (hμ : μ true = fun b => w.heap[b]?) : ∀ (n : Nat) (t : TypeId) (sh : List Sh) (cs : List Value) (fuel : Nat) (x : DataW H × List MemPlace), shOf P n t = some sh → DataW.trod enc P w base spare held fuel t cs = some x →
  ∃ ds, RdL μ ds cs ∧ HasShL sh ds
 | 0, _, _, _, _, _, h, _ => by simp [shOf] at h
 | n + 1, t, sh, cs, fuel, x, h, ht => by
  unfold shOf at h
  split at h
  ·rename_i hu
   simp at h; subst h
   obtain ⟨b, rfl, -⟩ := DataW.trod_bool hu ht
   exact ⟨[.v (.bool b)], by simp [RdL, Rd, Value.oneCell'], by simp only [HasShL, HasSh]; exact ⟨_, _, rfl, ⟨b, rfl⟩, rfl⟩⟩
  ·rename_i k hu
   simp at h; subst h
   obtain ⟨m, rfl, -, hw⟩ := DataW.trod_int hu ht
   exact ⟨[.v (.int k m)], by simp [RdL, Rd, Value.oneCell'], by simp only [HasShL, HasSh]; exact ⟨_, _, rfl, ⟨m, rfl, hw⟩, rfl⟩⟩
  ·rename_i hu
   simp at h; subst h
   obtain ⟨s, rfl, -, hw⟩ := DataW.trod_string hu ht
   exact ⟨[.v (.string s)], by simp [RdL, Rd, Value.oneCell'], by simp only [HasShL, HasSh]; exact ⟨_, _, rfl, ⟨s, rfl, hw⟩, rfl⟩⟩
  ·rename_i e hu
   simp only [Option.bind_eq_some_iff] at h
   obtain ⟨l, h1, h2⟩ := h
   split at h2
   ·rename_i hl
    cases h2
    rcases open_slice hu ht with ⟨rfl, -⟩ | ⟨a, len, cap, m, k, Dd, Pl, rfl, hb, hlc, hcm, hm, -, hi⟩
    ·refine ⟨[.sl true l.length []], ?_, ?_⟩
     ·simp only [RdL, Rd, and_true]
      exact ⟨none, 0, rfl, Nat.le_refl _, by simp [RdE]⟩
     ·simp only [HasShL, HasSh]
      exact ⟨_, _, rfl, ⟨[], rfl, by simp, by simp⟩, rfl⟩
    ·have hle : len ≤ m := by rw [hm]; split <;> omega
     obtain ⟨els, e1, e2⟩ := pick_list (Q := fun i (ds : List D) => HasShL l ds ∧ ∃ cs', w.cells? base (a.add (i * P.cellsOf e)) (P.cellsOf e) = some cs' ∧ RdL μ ds cs') len fun i hil => by
      obtain ⟨cs', c1, c2⟩ := hi i (by omega)
      obtain ⟨ds, d1, d2⟩ := sh_open hμ n e l cs' k _ h1 c2
      exact ⟨ds, d2, cs', c1, d1⟩
     refine ⟨[.sl true l.length els], ?_, ?_⟩
     ·simp only [RdL, Rd, and_true]
      refine ⟨some a, cap, by rw [e1], by omega, RdE.ofGet fun i ds hds => ?_⟩
      obtain ⟨d1, cs', c1, d2⟩ := e2 i ds hds
      refine ⟨d1.len, a, rfl, ?_⟩
      obtain ⟨-, c2, c3⟩ := World.cells?_some c1
      refine RdC.of d2 fun j u hj => ?_
      have hjl : j < P.cellsOf e := by rw [← c2]; exact (List.getElem?_eq_some_iff.1 hj).1
      rw [hμ, cell_all, Nat.zero_add, Nat.zero_add, hl, c3 j hjl, hj]
     ·simp only [HasShL, HasSh]
      refine ⟨_, _, rfl, ⟨els, rfl, by omega, fun ds hds => ?_⟩, rfl⟩
      obtain ⟨i, hi'⟩ := List.getElem?_of_mem hds
      exact (e2 i ds hi').1
   ·cases h2
  ·rename_i fs hu
   simp only [Option.bind_eq_some_iff] at h
   obtain ⟨ls, h1, l, h2, h3⟩ := h
   split at h3
   ·rename_i hl
    cases h3
    obtain ⟨xs, k, -, -, hlen, hxl, hf⟩ := DataW.trod_struct hu ht
    have := join_open (μ := μ) (cs := cs) h2 (fun i f hi => by
     obtain ⟨lf, a1, a2⟩ := mapM_get h1 i f hi
     have hi' : fs[i]? = some f := by simpa using hi
     have hix : i < xs.length := by rw [hxl]; exact (Array.getElem?_eq_some_iff.1 hi').1
     have hx := hf i f hi'
     rw [List.getElem?_eq_getElem hix] at hx
     obtain ⟨ds, d1, d2⟩ := sh_open hμ n f.type lf _ _ _ a2 hx
     exact ⟨lf, a1, ds, d1, d2⟩) (by omega)
    simpa using this
   ·cases h3
  ·rename_i m e hu
   simp only [Option.bind_eq_some_iff] at h
   obtain ⟨l, h1, h2⟩ := h
   split at h2
   ·rename_i hl
    cases h2
    obtain ⟨xs, k, -, -, hlen, hxl, hf⟩ := DataW.trod_array hu ht
    have := arr_open (μ := μ) (cs := cs) (l := l) m 0 (fun i hi => by
     have hx := hf i hi
     rw [List.getElem?_eq_getElem (by omega)] at hx
     obtain ⟨ds, d1, d2⟩ := sh_open hμ n e l _ _ _ h1 hx
     refine ⟨ds, ?_, d2⟩
     rwa [hl.1, Nat.zero_add]) (by rw [hlen, ← hl.2, Nat.zero_add])
    simpa using this
   ·cases h2
  ·cases h

/-! ### Arguments -/
def argSV (P : Program) (t : TypeId) (ds : List D) : SV :=
 match P.underlying t with
 | some (.struct _) => .agg (ofDL ds)
 | some (.array _ _) => .agg (ofDL ds)
 | _ => match ds with
  | [d] => ofD d
  | _ => .any
def argsSV (P : Program) : List TypeId → List (List D) → List SV
 | t :: ts, d :: ds => argSV P t d :: argsSV P ts ds
 | _, _ => []

theorem arg_rel {r : Reach} {b0 n : Nat} {t : TypeId} {sh : List Sh} {v : Value} {d : DataW H} {p : List MemPlace} (hsh : shOf P n t = some sh) (hv : Value.okWide P w r b0 t v) (h : DataW.Trod enc P w base spare held t v d p) :
  ∃ ds, HasShL sh ds ∧ rel (gh0 (fun b => w.heap[b]?) w) (argSV P t ds) v := by
 obtain ⟨fuel, h⟩ := h
 obtain ⟨ds, h1, h2⟩ := sh_open (μ := muOf (fun b => w.heap[b]?) w) (by rfl) n t sh _ fuel _ hsh h
 refine ⟨ds, h2, ?_⟩
 unfold argSV
 split
 ·rename_i fs hu
  obtain ⟨cs, rfl, -⟩ := okWide_struct hu hv
  exact ⟨cs, rfl, rels_ofDL ds _ h1⟩
 ·rename_i m e hu
  simp only [Value.okWide, hu] at hv
  obtain ⟨cs, rfl, -⟩ := hv
  exact ⟨cs, rfl, rels_ofDL ds _ h1⟩
 ·rename_i hu hu'
  have hc : v.cells.toList = [v] := by
   cases n with
   | zero => simp [shOf] at hsh
   | succ n =>
    unfold shOf at hsh
    simp only [Value.okWide] at hv
    split at hsh <;> rename_i hut <;> (try cases hsh) <;> (try exact absurd hut (hu _)) <;> (try exact absurd hut (hu' _ _)) <;> (try rw [hut] at hv) <;> simp only [Cell.okWide, hut] at hv <;>
     cases v <;> first | rfl | (simp [Cell.ok, hut] at hv)
  rw [hc] at h1
  match ds, h1 with
  | [d], h1 => exact rel_ofD d v h1.1
  | [], h1 => simp [RdL] at h1
  | _ :: _ :: _, h1 => simp [RdL] at h1

theorem args_rel {n b0 : Nat} : ∀ {ts : List TypeId} {shs : List (List Sh)} {vs : List Value} {ds : List (DataW H)} {p : List MemPlace}, ts.mapM (shOf P n) = some shs → (∀ (j : Nat) t v, ts[j]? = some t → vs[j]? = some v → Value.okWide P w .any b0 t v) →
  DataW.TrodAll enc P w base spare held ts vs ds p → ∃ dss, HasShLL shs dss ∧ rels (gh0 (fun b => w.heap[b]?) w) (argsSV P ts dss) vs
 | [], shs, vs, ds, p, h, _, ht => by
  simp at h; subst h
  match vs, ds, ht with
  | [], [], _ => exact ⟨[], by simp [HasShLL], by simp [argsSV, rels]⟩
 | t :: ts, shs, vs, ds, p, h, hv, ht => by
  simp only [List.mapM_cons, Option.bind_eq_bind, Option.bind_eq_some_iff, Option.pure_def, Option.some.injEq] at h
  obtain ⟨sh, h1, shs', h2, rfl⟩ := h
  obtain ⟨v, vs, d, ds, p, q, rfl, rfl, rfl, k1, k2⟩ := trodAll_cons ht
  obtain ⟨dd, a1, a2⟩ := arg_rel h1 (hv 0 t v rfl rfl) k1
  obtain ⟨dds, b1, b2⟩ := args_rel h2 (fun j t v ht hv' => hv (j + 1) t v (by simpa using ht) (by simpa using hv')) k2
  refine ⟨dd :: dds, ?_, ?_⟩
  ·simp only [HasShLL]; exact ⟨_, _, rfl, a1, b1⟩
  ·simp only [argsSV, rels]; exact ⟨a2, b2⟩

/-! ### The row's last step -/
theorem post_of_below' {f : Func} {s : ChangeSpec} {apart fresh handsOn again : Bool} {W W' : World} {args : Array Value} {v : Value} {ds gs : List (DataW H)} {before pa pv : List MemPlace}
  (hW : DataW.Whole enc P f.params.toList s.vars apart W args.toList ds gs before)
  (hres : ∀ (b : Nat) (sp : Nat → Bool) (hd : Bool), DataW.TrodAll enc P W' b sp hd f.resultTypes.toList (v.resultList f.resultTypes.size) (s.fn H (ds ++ gs)).results [])
  (hargs : ∀ sp : Nat → Bool, (∀ p ∈ before, sp p.block = true) → DataW.TrodAll enc P W' 0 sp true f.params.toList args.toList (s.fn H (ds ++ gs)).args pa)
  (hvars : ∀ sp : Nat → Bool, (∀ p ∈ before, sp p.block = true) → DataW.TrodVars enc P W' sp s.vars (s.fn H (ds ++ gs)).vars pv)
  (hps : before = pa ++ pv) (hb : Below W.heap.size W W')
  (hok : ∀ (j : Nat) (t : TypeId) (r : Value), f.resultTypes[j]? = some t → (v.resultList f.resultTypes.size)[j]? = some r → Value.okWide P W' .any 0 t r) :
  s.post enc P f apart fresh handsOn again W args v W' := by
 have hlt : ∀ p ∈ before, p.block < W.heap.size := fun p hp => hW.lt p hp
 have hold : ∀ p ∈ before, (fun b => decide (b < W.heap.size)) p.block = true := fun p hp => by simpa using hlt p hp
 refine ⟨ds, gs, before, [], pa, pv, hW, hres _ _ _, hargs _ hold, hvars _ hold, World.keptBut_mono (fun p hp => ⟨hp, ?_⟩) (hb.frame (· ∈ before)), fun _ => ?_⟩
 ·rw [hps, List.mem_append] at hp
  exact Or.inr hp
 ·obtain ⟨_, _, _, _, _, hz, hn⟩ := hW
  refine ⟨hok, _, _, ([] ++ pa) ++ pv, ⟨[] ++ pa, pv, trodAll_append (hargs _ (fun _ _ => rfl)) (hres _ _ _), hvars _ (fun _ _ => rfl), rfl, ?_, ?_⟩, ?_⟩
  ·intro b off hp
   have hin : MemPlace.cell b off ∈ before := by rw [hps]; simpa using hp
   rw [hb.frozen (hlt _ hin)]
   exact hz b off hin
  ·intro ha
   have := hn ha
   rw [hps] at this
   simpa using this
  ·intro p hp _
   rw [hps]
   simpa using hp

theorem trodAll_stays (hl : laidOutB P = true) {W W' : World} {sp : Nat → Bool} : ∀ {ts : List TypeId} {vs : List Value} {ds : List (DataW H)} {ps : List MemPlace}, (∀ t ∈ ts, P.readableRec t = true ∧ t < P.types.size) →
  DataW.TrodAll enc P W 0 (fun _ => true) true ts vs ds ps → (∀ p ∈ ps, W.sameAt W' p) → (∀ p ∈ ps, sp p.block = true) → DataW.TrodAll enc P W' 0 sp true ts vs ds ps
 | [], [], [], _, _, h, _, _ => h
 | [], _ :: _, _, _, _, h, _, _ => h.elim
 | [], [], _ :: _, _, _, h, _, _ => h.elim
 | t :: ts, vs, ds, ps, hr, h, hs, hp => by
  obtain ⟨v, vs, d, ds, p, q, rfl, rfl, rfl, k1, k2⟩ := trodAll_cons h
  exact ⟨p, q, WideElems.Trod_stays hl (hr t (by simp)).1 (hr t (by simp)).2 k1 (fun x hx => hs x (by simp [hx])) (fun x hx => hp x (by simp [hx])), trodAll_stays hl (fun u hu => hr u (by simp [hu])) k2 (fun x hx => hs x (by simp [hx])) (fun x hx => hp x (by simp [hx])), rfl⟩
 termination_by ts => ts.length

theorem trodAll_len : ∀ {ts : List TypeId} {vs : List Value} {ds : List (DataW H)} {ps : List MemPlace}, DataW.TrodAll enc P w base spare held ts vs ds ps → ds.length = ts.length
 | [], [], [], _, h => rfl
 | [], _ :: _, _, _, h => h.elim
 | [], [], _ :: _, _, h => h.elim
 | t :: ts, vs, ds, ps, h => by
  obtain ⟨v, vs, d, ds, p, q, rfl, rfl, rfl, k1, k2⟩ := trodAll_cons h
  simp [trodAll_len k2]

end
end Go.Vx
