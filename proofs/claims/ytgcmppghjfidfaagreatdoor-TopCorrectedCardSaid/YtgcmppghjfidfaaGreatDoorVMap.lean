/-
 The executor is sound: own maps.
-/
import Derived.Test.YtgcmppghjfidfaaGreatDoorVEff
import Derived.MapKept
namespace Go.Vx
open Go Go.RowKit
set_option linter.unusedSimpArgs false

def descK : Option IntKind → TypeDesc
 | some i => .int i
 | none => .string
theorem sameNow_kEq {kk : Option IntKind} {key k : Value} (h1 : keyIs kk key = true) (h2 : keyIs kk k = true) : Instr.sameNow (descK kk) key k = some (kEq key k) := by
 cases kk with
 | none =>
  cases key <;> simp [keyIs] at h1
  cases k <;> simp [keyIs] at h2
  rfl
 | some i =>
  cases key <;> simp [keyIs] at h1
  cases k <;> simp [keyIs] at h2
  subst h1; subst h2
  simp [descK, Instr.sameNow, kEq]
theorem check_key {P : Program} {w : World} {k : TypeId} {kk : Option IntKind} {key : Value} (hk : P.underlying k = some (descK kk)) (h1 : keyIs kk key = true) (e : Bool) : (Instr.checkKey e 10000 k key).run P w = .ok () w := by
 unfold Instr.checkKey
 cases kk with
 | none => cases key <;> simp [keyIs] at h1; simp [run_underlying hk, descK]
 | some i => cases key <;> simp [keyIs] at h1; simp [run_underlying hk, descK]
/-- the first entry of a key. -/
def atKey (key : Value) : List MapEntry → Nat → Option (Nat × Value)
 | [], _ => none
 | e :: l, i => if kEq key e.key then some (i, e.val) else atKey key l (i + 1)
theorem findNow_at {kk : Option IntKind} {key : Value} (h1 : keyIs kk key = true) : ∀ (l : List MapEntry) (i : Nat), entsOk kk (l.map entD) = true → Instr.findNow (descK kk) key l i = some (atKey key l i)
 | [], _, _ => rfl
 | e :: l, i, h => by
  simp only [List.map_cons, entsOk, List.all_cons, Bool.and_eq_true] at h
  have h2 : keyIs kk e.key = true := h.1
  simp only [Instr.findNow, sameNow_kEq h1 h2, atKey]
  cases kEq key e.key
  ·exact findNow_at h1 l (i + 1) h.2
  ·rfl
theorem find_key {P : Program} {w : World} {k : TypeId} {kk : Option IntKind} {key : Value} (hk : P.underlying k = some (descK kk)) (h1 : keyIs kk key = true) {l : List MapEntry} (h : entsOk kk (l.map entD) = true) : (Instr.findKey k key l).run P w = .ok (atKey key l 0) w := by
 simp [Instr.findKey, run_underlying hk, findNow_at h1 l 0 h]
theorem atKey_lk {key : Value} : ∀ (l : List MapEntry) (i : Nat), (atKey key l i).map (·.2) = lkE key (l.map entD)
 | [], _ => rfl
 | e :: l, i => by
  simp only [atKey, List.map_cons, entD, lkE]
  cases kEq key e.key
  ·exact atKey_lk l (i + 1)
  ·rfl
theorem atKey_none {key val : Value} : ∀ (l : List MapEntry) (i : Nat), atKey key l i = none → upE key val (l.map entD) = l.map entD ++ [[.v key, .v val]]
 | [], _, _ => rfl
 | e :: l, i, h => by
  simp only [atKey] at h
  cases hk : kEq key e.key with
  | true => simp [hk] at h
  | false =>
   simp only [hk, Bool.false_eq_true, if_false] at h
   simp only [List.map_cons, entD, upE, hk, Bool.false_eq_true, if_false, List.cons_append]
   rw [← atKey_none l (i + 1) h]
theorem atKey_some {key val : Value} : ∀ (l : List MapEntry) (i j : Nat) (v : Value), atKey key l i = some (j, v) → i ≤ j ∧ ∃ e, l[j - i]? = some e ∧ kEq key e.key = true ∧ upE key val (l.map entD) = (l.modify (j - i) fun e => { e with key := key, val := val }).map entD
 | [], _, _, _, h => by simp [atKey] at h
 | e :: l, i, j, v, h => by
  simp only [atKey] at h
  cases hk : kEq key e.key with
  | true =>
   simp only [hk, if_true, Option.some.injEq, Prod.mk.injEq] at h
   obtain ⟨rfl, rfl⟩ := h
   refine ⟨Nat.le_refl _, e, by simp, hk, ?_⟩
   simp only [Nat.sub_self, List.modify_zero_cons, List.map_cons, entD, upE, hk, if_true]
  | false =>
   simp only [hk, Bool.false_eq_true, if_false] at h
   obtain ⟨h1, e', h2, h3, h4⟩ := atKey_some l (i + 1) j v h
   obtain ⟨d, rfl⟩ : ∃ d, j = i + 1 + d := ⟨j - (i + 1), by omega⟩
   refine ⟨by omega, e', ?_, h3, ?_⟩
   ·rw [show i + 1 + d - i = d + 1 by omega, List.getElem?_cons_succ]
    rwa [show i + 1 + d - (i + 1) = d by omega] at h2
   ·rw [show i + 1 + d - i = d + 1 by omega, List.modify_succ_cons]
    rw [show i + 1 + d - (i + 1) = d by omega] at h4
    simp only [List.map_cons, entD, upE, hk, Bool.false_eq_true, if_false]
    rw [h4]
theorem RdM.plain {μ : Mu} {kk : Option IntKind} : ∀ (els : List (List D)) (es : List MapEntry), entsOk kk els = true → RdM μ els es → es.map entD = els
 | [], [], _, _ => rfl
 | [.v k, .v x] :: l, e :: es, h, q => by
  simp only [entsOk, List.all_cons, Bool.and_eq_true] at h
  obtain ⟨⟨h1, h2⟩, h3⟩ := q
  have h2 : e.val = x := h2
  rw [List.map_cons, RdM.plain l es h.2 h3, entD, h1, h2]
 | [], _ :: _, _, q => by simp [RdM] at q
 | [] :: _, _, h, _ => by simp [entsOk, entOk] at h
 | [_] :: _, _, h, _ => by simp [entsOk, entOk] at h
 | (.sl .. :: _ :: _) :: _, _, h, _ => by simp [entsOk, entOk] at h
 | (.pt .. :: _ :: _) :: _, _, h, _ => by simp [entsOk, entOk] at h
 | (.clo .. :: _ :: _) :: _, _, h, _ => by simp [entsOk, entOk] at h
 | (.v _ :: .sl .. :: _) :: _, _, h, _ => by simp [entsOk, entOk] at h
 | (.v _ :: .pt .. :: _) :: _, _, h, _ => by simp [entsOk, entOk] at h
 | (.v _ :: .clo .. :: _) :: _, _, h, _ => by simp [entsOk, entOk] at h
 | (.v _ :: .v _ :: _ :: _) :: _, _, h, _ => by simp [entsOk, entOk] at h
 | [.v _, .v _] :: _, [], _, q => by simp [RdM] at q
/-- entries whose keys are of the map's kind. -/
theorem RdM.at {μ : Mu} {kk : Option IntKind} {els : List (List D)} {es : List MapEntry} (h : entsKD kk els = true) (q : RdM μ els es) :
  (els = [] ∧ es = []) ∨ ∃ k d l e es', els = [.v k, d] :: l ∧ es = e :: es' ∧ keyIs kk k = true ∧ e.key = k ∧ RdW μ d e.val ∧ entsKD kk l = true ∧ RdM μ l es' := by
 cases els with
 | nil =>
  cases es with
  | nil => exact .inl ⟨rfl, rfl⟩
  | cons e es => simp [RdM] at q
 | cons x l =>
  simp only [entsKD, List.all_cons, Bool.and_eq_true] at h
  obtain ⟨h1, h2⟩ := h
  match x, h1 with
  | [.v k, d], h1 =>
   cases es with
   | nil => simp [RdM] at q
   | cons e es => exact .inr ⟨k, d, l, e, es, rfl, rfl, h1, q.1.1, q.1.2, h2, q.2⟩
theorem findNow_D {μ : Mu} {kk : Option IntKind} {key : Value} (h1 : keyIs kk key = true) : ∀ (es : List MapEntry) (els : List (List D)) (i : Nat), entsKD kk els = true → RdM μ els es → Instr.findNow (descK kk) key es i = some (atKey key es i)
 | [], _, _, _, _ => rfl
 | e :: es, els, i, h, q => by
  rcases RdM.at h q with ⟨-, h0⟩ | ⟨k, d, l, e', es', rfl, he, hk, hek, -, h2, q2⟩
  ·cases h0
  ·cases he
   have h3 : keyIs kk e.key = true := by rw [hek]; exact hk
   simp only [Instr.findNow, sameNow_kEq h1 h3, atKey]
   cases kEq key e.key
   ·exact findNow_D h1 es l (i + 1) h2 q2
   ·rfl
theorem find_keyD {μ : Mu} {P : Program} {w : World} {k : TypeId} {kk : Option IntKind} {key : Value} (hk : P.underlying k = some (descK kk)) (h1 : keyIs kk key = true) {es : List MapEntry} {els : List (List D)} (h : entsKD kk els = true) (q : RdM μ els es) : (Instr.findKey k key es).run P w = .ok (atKey key es 0) w := by
 simp [Instr.findKey, run_underlying hk, findNow_D h1 es els 0 h q]
/-- what is looked up: the entry's value reads as the datum that is found. -/
theorem atKey_lkD {μ : Mu} {kk : Option IntKind} {key : Value} : ∀ (es : List MapEntry) (els : List (List D)) (i : Nat), entsKD kk els = true → RdM μ els es →
  (atKey key es i = none ∧ lkD key els = none) ∨ ∃ j v d, atKey key es i = some (j, v) ∧ lkD key els = some d ∧ RdW μ d v
 | [], els, i, h, q => by
  rcases RdM.at h q with ⟨rfl, -⟩ | ⟨_, _, _, _, _, _, he, _⟩
  ·exact .inl ⟨rfl, rfl⟩
  ·cases he
 | e :: es, els, i, h, q => by
  rcases RdM.at h q with ⟨-, h0⟩ | ⟨k, d, l, e', es', rfl, he, hk, hek, hd, h2, q2⟩
  ·cases h0
  ·cases he
   simp only [atKey, lkD, hek]
   cases hx : kEq key k
   ·exact atKey_lkD es l (i + 1) h2 q2
   ·exact .inr ⟨i, e.val, d, rfl, rfl, hd⟩
theorem upD_none {μ : Mu} {kk : Option IntKind} {key val : Value} {d : D} {clk : Nat} (hv : RdW μ d val) : ∀ (es : List MapEntry) (els : List (List D)) (i : Nat), entsKD kk els = true → RdM μ els es → atKey key es i = none → RdM μ (upD key d els) (es ++ [⟨key, val, clk⟩])
 | [], els, i, h, q, _ => by
  rcases RdM.at h q with ⟨rfl, -⟩ | ⟨_, _, _, _, _, _, he, _⟩
  ·exact ⟨⟨rfl, hv⟩, trivial⟩
  ·cases he
 | e :: es, els, i, h, q, ha => by
  rcases RdM.at h q with ⟨-, h0⟩ | ⟨k, d', l, e', es', rfl, he, hk, hek, hd, h2, q2⟩
  ·cases h0
  ·cases he
   simp only [atKey, hek] at ha
   cases hx : kEq key k
   ·rw [hx] at ha
    simp only [upD, hx, Bool.false_eq_true, if_false, List.cons_append]
    exact ⟨⟨hek, hd⟩, upD_none hv es l (i + 1) h2 q2 (by simpa using ha)⟩
   ·rw [hx] at ha; simp at ha
theorem upD_some {μ : Mu} {kk : Option IntKind} {key val : Value} {d : D} (hv : RdW μ d val) : ∀ (es : List MapEntry) (els : List (List D)) (i j : Nat) (v : Value), entsKD kk els = true → RdM μ els es → atKey key es i = some (j, v) →
  i ≤ j ∧ (∃ e, es[j - i]? = some e ∧ kEq key e.key = true) ∧ RdM μ (upD key d els) (es.modify (j - i) fun e => { e with key := key, val := val })
 | [], _, _, _, _, _, _, ha => by simp [atKey] at ha
 | e :: es, els, i, j, v, h, q, ha => by
  rcases RdM.at h q with ⟨-, h0⟩ | ⟨k, d', l, e', es', rfl, he, hk, hek, hd, h2, q2⟩
  ·cases h0
  ·cases he
   simp only [atKey, hek] at ha
   cases hx : kEq key k with
   | true =>
    simp only [hx, if_true, Option.some.injEq, Prod.mk.injEq] at ha
    obtain ⟨rfl, rfl⟩ := ha
    refine ⟨Nat.le_refl _, ⟨e, by simp, by rw [hek]; exact hx⟩, ?_⟩
    simp only [Nat.sub_self, List.modify_zero_cons, upD, hx, if_true]
    exact ⟨⟨rfl, hv⟩, q2⟩
   | false =>
    simp only [hx, Bool.false_eq_true, if_false] at ha
    obtain ⟨p1, ⟨e2, p2, p3⟩, p4⟩ := upD_some hv es l (i + 1) j v h2 q2 ha
    obtain ⟨c, rfl⟩ : ∃ c, j = i + 1 + c := ⟨j - (i + 1), by omega⟩
    rw [show i + 1 + c - (i + 1) = c by omega] at p2 p4
    refine ⟨by omega, ⟨e2, by rw [show i + 1 + c - i = c + 1 by omega, List.getElem?_cons_succ]; exact p2, p3⟩, ?_⟩
    rw [show i + 1 + c - i = c + 1 by omega, List.modify_succ_cons]
    simp only [upD, hx, Bool.false_eq_true, if_false]
    exact ⟨⟨hek, hd⟩, p4⟩
theorem rel_ofW {g : Gh} : ∀ {d : D} {u : Value}, RdW g.μ d u → rel g (ofD d) u
 | .v _, _, h => h
 | .sl .., _, h => rel_ofD _ _ h
 | .pt .., _, h => rel_ofD _ _ h
 | .clo .., _, h => rel_ofD _ _ h
theorem kEq_bits {kk : Option IntKind} {key k : Value} (h1 : keyIs kk key = true) (h : kEq key k = true) : Instr.sameBits 10000 k key = true := by
 cases kk with
 | none =>
  cases key <;> simp [keyIs] at h1
  cases k <;> simp only [kEq] at h <;> try (cases h; done)
  have := (MapKept.bytes_beq _ _).1 h
  subst this
  exact h
 | some i =>
  cases key <;> simp [keyIs] at h1
  cases k <;> simp [kEq] at h
  obtain ⟨rfl, rfl⟩ := h
  simp [Instr.sameBits]

section
variable {C : Cx} {T : Tab} {o : Oper} {st : St} {K : SV → St → Prop}

theorem e_makeMap {t : TypeId} (ho : o.op = .makeMap t none) {l : Lk (st, K)} (h : mmpX (tlook T t) t st K l) : OpE .no C o st K := by
 unfold mmpX at h
 split at h
 ·unfold pass at h
  rw [lenN_eq] at h
  refine OpE.of_value fun g a w ht hm => ?_
  have hb : Below w.heap.size w (w.alloc (.map #[] 0)) := (Below.refl _ _).alloc (Nat.le_refl _) _
  have hown : ob (Value.map (some w.heap.size)) = some w.heap.size := rfl
  have hrow : RowOk g.μ C.w0.heap.size (w.alloc (.map #[] 0)) (.map (some w.heap.size)) t 0 [] := .inr ⟨rfl, w.heap.size, #[], 0, rfl, hm.size, heap_alloc_new w _, trivial⟩
  refine ⟨.value (.map (some w.heap.size)), w.alloc (.map #[] 0), g.addRow (.map (some w.heap.size)), _, _, _, ?_, .inl rfl, h, ⟨by simp [Gh.addRow, ht.nr], .inr ⟨_, rfl⟩, by simp [Gh.addRow, ht.nr]⟩, ht.newRow _ _ rfl (by simp) (fun _ _ _ h => h), ?_, fun _ => ⟨g.le_addRow _, fr_of hb⟩⟩
  ·simp only [execOp, ho, Option.map_none]
   apply run_v'
   simp [Instr.makeMap, Result.andThen]
  ·refine hm.newRow ht.nr rfl rfl rfl (by simp) hrow rfl (fun k e s l hk => ⟨hk, fun b hb hv => ?_⟩) (rb := none) (fun b hb => by cases hb) (fun b hb _ _ => Below.heap_alloc w _ b hb) (fun b hb hlt => ?_)
   ·have := ((hm.row _ _ _ _ hk).1.lt b hb).2
    rw [hown] at hv; cases hv; omega
   ·rw [hown] at hb; cases hb; omega
 ·exact h.elim

theorem e_lookup (hT : TabOk C.P T) {t : TypeId} {x ix : Operand} {ok : Bool} (ho : o.op = .lookup t x ix ok) {l : Lk (st, K)} (h : lkX (tlook T t) (st.ev x) (st.ev ix) ok st K l) : OpE .no C o st K := by
 unfold lkX at h
 split at h
 ·rename_i z q kk m r key hti hx hi
  unfold lkG at h
  split at h
  ·rename_i e s els hr
   rw [nth_eq] at hr
   obtain ⟨rfl, h1, h2, hk⟩ := h
   unfold pass at hk
   obtain ⟨_, ⟨kt, et, hu, hkt, ii, hii, hz⟩, _⟩ := hT _ _ hti
   have hkt' : C.P.underlying kt = some (descK kk) := by rw [hkt]; cases kk <;> rfl
   refine OpE.of_value fun g a w ht hm => ?_
   have e1 := rel_ev ht x; rw [hx] at e1; replace e1 := e1.1
   have e2 := rel_ev ht ix; rw [hi] at e2; simp only [rel] at e2
   obtain ⟨b, ents, clk, hv, hbb, hheap, hents⟩ := (hm.row _ _ _ _ hr).1.map
   have hfind := find_keyD (w := w) hkt' h1 h2 hents
   have hzr : (zeroValue et).run C.P w = .ok (.slice none 0 0) w := by simp [zeroValue, typeInfo, hii, hz]
   obtain ⟨u, hu1, hu2⟩ : ∃ u, rel g (ofD ((lkD key els).getD nilD)) u ∧ (match atKey key ents.toList 0 with | some p => p.2 = u ∧ (lkD key els).isSome = true | none => u = .slice none 0 0 ∧ (lkD key els).isSome = false) := by
    rcases atKey_lkD (key := key) ents.toList els 0 h2 hents with ⟨p1, p2⟩ | ⟨j, v, d, p1, p2, p3⟩
    ·refine ⟨.slice none 0 0, ?_, ?_⟩
     ·rw [p2]; rfl
     ·rw [p1, p2]; exact ⟨rfl, rfl⟩
    ·refine ⟨v, ?_, ?_⟩
     ·rw [p2]; exact rel_ofW p3
     ·rw [p1, p2]; exact ⟨rfl, rfl⟩
   refine ⟨.value (if ok then .tuple #[u, .bool (lkD key els).isSome] else u), w, g, st, _, _, ?_, .inl rfl, hk, ?_, ht, hm, fun _ => ⟨.refl _, .refl _ _ _⟩⟩
   ·simp only [execOp, ho, e1, e2, hv]
    apply run_v'
    cases hat : atKey key ents.toList 0 with
    | none =>
     rw [hat] at hfind hu2
     obtain ⟨q1, q2⟩ := hu2
     rw [q1, q2]
     simp [Instr.lookup, run_underlying hu, MapKept.run_getObj_map hheap, check_key hkt' h1, hfind, hzr, Result.andThen]
    | some p =>
     rw [hat] at hfind hu2
     obtain ⟨q1, q2⟩ := hu2
     rw [← q1, q2]
     simp [Instr.lookup, run_underlying hu, MapKept.run_getObj_map hheap, check_key hkt' h1, hfind, Result.andThen]
   ·unfold lkDV
    cases ok
    ·simp only [Bool.false_eq_true, if_false]; exact hu1
    ·simp only [if_true, rel]
     exact ⟨_, rfl, hu1, rfl, trivial⟩
  ·exact h.elim
 ·rename_i z q kk zz m r key hne hti hx hi
  unfold lkR at h
  split at h
  ·rename_i e s els hr
   rw [nth_eq] at hr
   obtain ⟨rfl, h1, h2, hk⟩ := h
   unfold pass at hk
   obtain ⟨_, ⟨kt, et, hu, hkt, ii, hii, hz⟩, _⟩ := hT _ _ hti
   have hkt' : C.P.underlying kt = some (descK kk) := by rw [hkt]; cases kk <;> rfl
   refine OpE.of_value fun g a w ht hm => ?_
   have e1 := rel_ev ht x; rw [hx] at e1; replace e1 := e1.1
   have e2 := rel_ev ht ix; rw [hi] at e2; simp only [rel] at e2
   obtain ⟨b, ents, clk, hv, hbb, hheap, hents⟩ := (hm.row _ _ _ _ hr).1.map
   replace hents := RdM.plain _ _ h2 hents
   subst hents
   have hfind := find_key (w := w) hkt' h1 h2
   have hlk := atKey_lk (key := key) ents.toList 0
   have hzr : (zeroValue et).run C.P w = .ok zz w := by simp [zeroValue, typeInfo, hii, hz]
   refine ⟨.value (if ok then .tuple #[(lkE key (ents.toList.map entD)).getD zz, .bool (lkE key (ents.toList.map entD)).isSome] else (lkE key (ents.toList.map entD)).getD zz), w, g, st, _, _, ?_, .inl rfl, hk, ?_, ht, hm, fun _ => ⟨.refl _, .refl _ _ _⟩⟩
   ·simp only [execOp, ho, e1, e2, hv]
    apply run_v'
    rw [← hlk]
    cases hat : atKey key ents.toList 0 with
    | none => rw [hat] at hfind; simp [Instr.lookup, run_underlying hu, MapKept.run_getObj_map hheap, check_key hkt' h1, hfind, hzr, Result.andThen]
    | some p => rw [hat] at hfind; simp [Instr.lookup, run_underlying hu, MapKept.run_getObj_map hheap, check_key hkt' h1, hfind, Result.andThen]
   ·unfold lkV
    cases ok
    ·simp only [Bool.false_eq_true, if_false, rel]
    ·simp only [if_true, rel]
     exact ⟨_, rfl, rfl, rfl, trivial⟩
  ·exact h.elim
 ·exact h.elim

theorem Mem.setMap {g : Gh} {w : World} (h : Mem C g st w) {r : Nat} {e : Nat} {els els' : List (List D)} (hr : st.rw[r]? = some (.own e 0 els)) {b : Nat} (hv : g.σ r = .map (some b)) {ents ents' : Array MapEntry} {clk clk' : Nat} (hheap : w.heap[b]? = some (.map ents clk)) (hbb : C.w0.heap.size ≤ b) (he : RdM g.μ els' ents'.toList) :
  Mem C g { st with rw := st.rw.set r (.own e 0 els') } { w with heap := w.heap.setIfInBounds b (.map ents' clk') } := by
 have hrow := (h.row _ _ _ _ hr).1
 have htg := (h.row _ _ _ _ hr).2
 have htagb := htg b (by rw [hv]; rfl)
 have hlt := heap_lt hheap
 have hoth : ∀ x, x ≠ b → (w.heap.setIfInBounds b (.map ents' clk'))[x]? = w.heap[x]? := fun x hx => by
  rw [Array.getElem?_setIfInBounds]; rw [if_neg (fun e => hx e.symm)]
 have hself : (w.heap.setIfInBounds b (.map ents' clk'))[b]? = some (.map ents' clk') := by
  rw [Array.getElem?_setIfInBounds]; simp [hlt]
 have htx : ∀ x, g.tag x = .imm → x ≠ b := fun x hx e => by rw [e, htagb] at hx; cases hx
 have hsz : (w.heap.setIfInBounds b (.map ents' clk')).size = w.heap.size := by simp
 refine ⟨h.os, h.tape, h.output, by show _ ≤ (w.heap.setIfInBounds b _).size; rw [hsz]; exact h.size, fun q x hx => ⟨(hoth x (htx x (h.old q x hx).2)).trans (h.old q x hx).1, (h.old q x hx).2⟩, fun x hx => h.fresh x (by rw [show ({ w with heap := w.heap.setIfInBounds b (.map ents' clk') } : World).heap.size = w.heap.size from hsz] at hx; exact hx), fun k bx hk => ?_, fun k e' s' l hk => ?_, fun f => ⟨fun x o hx => ?_, (h.imm f).2⟩, h.keep, fun x hx => ⟨(h.np x hx).1, by show _ < (w.heap.setIfInBounds b _).size; rw [hsz]; exact (h.np x hx).2⟩, h.hs.next rfl rfl rfl (by show _ ≤ (w.heap.setIfInBounds b _).size; rw [hsz]; exact Nat.le_refl _) (fun _ _ _ ho => .inl ho) fun k _ _ hk => ⟨k, by first | exact hk | (rw [List.getElem?_set] at hk; split at hk <;> first | exact hk | (split at hk <;> cases hk)) | (rw [setN_eq, List.getElem?_set] at hk; split at hk <;> first | exact hk | (split at hk <;> cases hk))⟩⟩
 ·obtain ⟨h1, c2, h2, h3⟩ := h.box _ _ hk
  have : g.ρ k ≠ b := fun e => by rw [e, htagb] at h1; cases h1
  exact ⟨h1, c2, (hoth _ this).trans h2, h3⟩
 ·simp only [] at hk
  rw [List.getElem?_set] at hk
  split at hk
  ·rename_i e1; subst e1
   split at hk
   ·simp only [Option.some.injEq, Rw.own.injEq] at hk
    obtain ⟨rfl, rfl, rfl⟩ := hk
    exact ⟨.inr ⟨rfl, b, ents', clk', hv, hbb, hself, he⟩, htg⟩
   ·cases hk
  ·rename_i hne
   obtain ⟨h1, h2⟩ := h.row _ _ _ _ hk
   refine ⟨h1.keep fun x hx => hoth x fun e => ?_, h2⟩
   have := h2 x hx
   rw [e, htagb] at this
   cases this
   exact hne rfl
 ·exact (hoth x (htx x ((h.imm f).2 x o hx))).trans ((h.imm f).1 x o hx)

theorem e_mapUpdate (hT : TabOk C.P T) {t : TypeId} {x ky vl : Operand} (ho : o.op = .mapUpdate t x ky vl ∨ o.op = .insert t x ky vl) {l : Lk (st, K)} (h : upX (tlook T t) (st.ev x) (st.ev ky) (st.ev vl) st K l) : OpE (htV (st.ev x)) C o st K := by
 unfold upX at h
 split at h
 ·rename_i z q kk zz m r key val hti hx hi hvl
  rw [show htV (st.ev x) = .row r by rw [hx]; rfl]
  unfold upR at h
  split at h
  ·rename_i e s els hr
   rw [nth_eq] at hr
   obtain ⟨rfl, h1, h2, hk⟩ := h
   unfold pass at hk
   rw [setN_eq] at hk
   obtain ⟨_, ⟨kt, et, hu, hkt, ii, hii, hz⟩, _⟩ := hT _ _ hti
   have hkt' : C.P.underlying kt = some (descK kk) := by rw [hkt]; cases kk <;> rfl
   refine OpE.of_value fun g a w ht hm => ?_
   have e1 := rel_ev ht x; rw [hx] at e1; have hrn := e1.2.2; replace e1 := e1.1
   have e2 := rel_ev ht ky; rw [hi] at e2; simp only [rel] at e2
   have e3 := rel_ev ht vl; rw [hvl] at e3; simp only [rel] at e3
   obtain ⟨b, ents, clk, hv, hbb, hheap, hents⟩ := (hm.row _ _ _ _ hr).1.map
   replace hents := RdM.plain _ _ h2 hents
   subst hents
   have hfind := find_key (w := w) hkt' h1 h2
   have htm : TmOk C g { st with rw := st.rw.set r (.own e 0 (upE key val (ents.toList.map entD))) } a := by
    refine ⟨ht.nb, by simp [ht.nr], ht.defers, ht.size, ht.tm, fun k s' e' hk' => ?_, ht.pin⟩
    rw [List.getElem?_set] at hk'
    split at hk'
    ·split at hk' <;> cases hk'
    ·exact ht.frz _ _ _ hk'
   have hfr : ∀ o', Fr g (.row r) w { w with heap := w.heap.setIfInBounds b o' } := fun o' x hx hn => by
    show (w.heap.setIfInBounds b o')[x]? = _
    rw [Array.getElem?_setIfInBounds, if_neg]
    intro e; apply hn; rw [← e]; show ob (g.σ r) = _; rw [hv]; rfl
   cases hat : atKey key ents.toList 0 with
   | none =>
    rw [hat] at hfind
    refine ⟨.skip, { w with heap := w.heap.setIfInBounds b (.map (ents.push ⟨key, val, clk⟩) (clk + 1)) }, g, _, .any, undef, ?_, .inr ⟨rfl, rfl⟩, hk, trivial, htm, ?_, fun _ => ⟨.refl _, hfr _⟩⟩
    ·rcases ho with ho | ho <;> (simp only [execOp, ho, e1, e2, e3, hv]; apply run_u'; simp [Instr.mapUpdate, run_underlying hu, MapKept.run_getObj_map hheap, check_key hkt' h1, hfind, MapKept.run_setObj_map _ hheap, Result.andThen])
    ·refine hm.setMap hr hv hheap hbb ?_
     rw [atKey_none _ _ hat, show ents.toList.map entD ++ [[.v key, .v val]] = (ents.push ⟨key, val, clk⟩).toList.map entD by simp [entD]]
     exact RdM.of _ _
   | some p =>
    obtain ⟨j, v0⟩ := p
    rw [hat] at hfind
    obtain ⟨-, e', he', hke, hup⟩ := atKey_some (val := val) _ _ _ _ hat
    rw [Nat.sub_zero] at he' hup
    have hbits := kEq_bits h1 hke
    have hej : ents[j]? = some e' := by simpa using he'
    refine ⟨.skip, { w with heap := w.heap.setIfInBounds b (.map (ents.modify j fun e => { e with key := key, val := val }) clk) }, g, _, .any, undef, ?_, .inr ⟨rfl, rfl⟩, hk, trivial, htm, ?_, fun _ => ⟨.refl _, hfr _⟩⟩
    ·rcases ho with ho | ho <;> (simp only [execOp, ho, e1, e2, e3, hv]; apply run_u'; simp [Instr.mapUpdate, run_underlying hu, MapKept.run_getObj_map hheap, check_key hkt' h1, hfind, hej, Instr.keyThatStays, hbits, MapKept.run_setObj_map _ hheap, Result.andThen])
    ·refine hm.setMap hr hv hheap hbb ?_
     rw [hup, show ents.toList.modify j (fun e => { e with key := key, val := val }) = (ents.modify j fun e => { e with key := key, val := val }).toList by simp]
     exact RdM.of _ _
  ·exact h.elim
 ·rename_i z q kk zz m r key bb sz vls hti hx hi hvl
  rw [show htV (st.ev x) = .row r by rw [hx]; rfl]
  unfold upG at h
  split at h
  ·rename_i e s els hr
   rw [nth_eq] at hr
   obtain ⟨rfl, h1, h2, hk⟩ := h
   unfold pass at hk
   rw [setN_eq] at hk
   obtain ⟨_, ⟨kt, et, hu, hkt, ii, hii, hz⟩, _⟩ := hT _ _ hti
   have hkt' : C.P.underlying kt = some (descK kk) := by rw [hkt]; cases kk <;> rfl
   refine OpE.of_value fun g a w ht hm => ?_
   have e1 := rel_ev ht x; rw [hx] at e1; have hrn := e1.2.2; replace e1 := e1.1
   have e2 := rel_ev ht ky; rw [hi] at e2; simp only [rel] at e2
   have e3 := rel_ev ht vl; rw [hvl] at e3
   obtain ⟨val, hval⟩ : ∃ val, a.eval vl = val := ⟨_, rfl⟩
   rw [hval] at e3
   have e4 : RdW g.μ (.sl bb sz vls) val := by simpa only [rel, RdW] using e3
   obtain ⟨b, ents, clk, hv, hbb, hheap, hents⟩ := (hm.row _ _ _ _ hr).1.map
   have hfind := find_keyD (w := w) hkt' h1 h2 hents
   have htm : TmOk C g { st with rw := st.rw.set r (.own e 0 (upD key (.sl bb sz vls) els)) } a := by
    refine ⟨ht.nb, by simp [ht.nr], ht.defers, ht.size, ht.tm, fun k s' e' hk' => ?_, ht.pin⟩
    rw [List.getElem?_set] at hk'
    split at hk'
    ·split at hk' <;> cases hk'
    ·exact ht.frz _ _ _ hk'
   have hfr : ∀ o', Fr g (.row r) w { w with heap := w.heap.setIfInBounds b o' } := fun o' x hx hn => by
    show (w.heap.setIfInBounds b o')[x]? = _
    rw [Array.getElem?_setIfInBounds, if_neg]
    intro e; apply hn; rw [← e]; show ob (g.σ r) = _; rw [hv]; rfl
   cases hat : atKey key ents.toList 0 with
   | none =>
    rw [hat] at hfind
    refine ⟨.skip, { w with heap := w.heap.setIfInBounds b (.map (ents.push ⟨key, val, clk⟩) (clk + 1)) }, g, _, .any, undef, ?_, .inr ⟨rfl, rfl⟩, hk, trivial, htm, ?_, fun _ => ⟨.refl _, hfr _⟩⟩
    ·rcases ho with ho | ho <;> (simp only [execOp, ho, e1, e2, hval, hv]; apply run_u'; simp [Instr.mapUpdate, run_underlying hu, MapKept.run_getObj_map hheap, check_key hkt' h1, hfind, MapKept.run_setObj_map _ hheap, Result.andThen])
    ·refine hm.setMap hr hv hheap hbb ?_
     have := upD_none (clk := clk) e4 _ _ _ h2 hents hat
     simpa using this
   | some p =>
    obtain ⟨j, v0⟩ := p
    rw [hat] at hfind
    obtain ⟨-, ⟨e', he', hke⟩, hup⟩ := upD_some e4 _ _ _ _ _ h2 hents hat
    rw [Nat.sub_zero] at he' hup
    have hbits := kEq_bits h1 hke
    have hej : ents[j]? = some e' := by simpa using he'
    refine ⟨.skip, { w with heap := w.heap.setIfInBounds b (.map (ents.modify j fun e => { e with key := key, val := val }) clk) }, g, _, .any, undef, ?_, .inr ⟨rfl, rfl⟩, hk, trivial, htm, ?_, fun _ => ⟨.refl _, hfr _⟩⟩
    ·rcases ho with ho | ho <;> (simp only [execOp, ho, e1, e2, hval, hv]; apply run_u'; simp [Instr.mapUpdate, run_underlying hu, MapKept.run_getObj_map hheap, check_key hkt' h1, hfind, hej, Instr.keyThatStays, hbits, MapKept.run_setObj_map _ hheap, Result.andThen])
    ·refine hm.setMap hr hv hheap hbb ?_
     simpa using hup
  ·exact h.elim
 ·exact h.elim
end
end Go.Vx
