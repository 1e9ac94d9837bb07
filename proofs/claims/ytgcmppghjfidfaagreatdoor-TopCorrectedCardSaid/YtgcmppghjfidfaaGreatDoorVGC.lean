/-
 Chapter 2, walks: set words of a list (the program).
-/
import Derived.Test.YtgcmppghjfidfaaGreatDoorVGB
import Derived.Test.YtgcmppghjfidfaaGreatDoorVGA
import Derived.Test.YtgcmppghjfidfaaGreatDoorVFrb
import Derived.Test.YtgcmppghjfidfaaGreatDoorVMut
import Derived.Test.YtgcmppghjfidfaaGreatDoorVIns
import Derived.Test.YtgcmppghjfidfaaGreatDoorVB8
set_option linter.unusedSimpArgs false
set_option linter.unusedVariables false
namespace Go.Proofs.YtgcmppghjfidfaaGreatDoor
open Go Go.Vx
set_option maxRecDepth 20000
def eWL (p : ByteArray × List Int) : List D := [.v (.string p.1), .sl true 1 (p.2.map eI)]
theorem ents_sl : ∀ m : List (ByteArray × List Int), entsKD none (m.map eWL) = true
 | [] => rfl
 | p :: m => by simp only [List.map_cons, eWL, entsKD, List.all_cons, entKD, keyIs, Bool.and_eq_true]; exact ⟨trivial, ents_sl m⟩
theorem lk_sl (a : ByteArray) : ∀ m : List (ByteArray × List Int), lkD (.string a) (m.map eWL) = (luk a m).map fun v => .sl true 1 (v.map eI)
 | [] => rfl
 | p :: m => by
  simp only [List.map_cons, eWL, lkD, kEq_s, luk]
  by_cases h : p.1 = a
  ·simp [h]
  ·simp only [h, decide_false, Bool.false_eq_true, if_false]; exact lk_sl a m
theorem up_sl (a : ByteArray) (b : List Int) : ∀ m : List (ByteArray × List Int), upD (.string a) (.sl true 1 (b.map eI)) (m.map eWL) = (upd a b m).map eWL
 | [] => rfl
 | p :: m => by
  simp only [List.map_cons, eWL, upD, kEq_s, upd]
  by_cases h : p.1 = a
  ·simp [h, eWL]
  ·simp only [h, decide_false, Bool.false_eq_true, if_false, List.map_cons]; rw [up_sl a b m]; rfl
theorem mapsL : (∀ m : List (ByteArray × List Int), entsKD none (m.map eWL) = true) ∧ (∀ a (m : List (ByteArray × List Int)), lkD (.string a) (m.map eWL) = (luk a m).map fun v => .sl true 1 (v.map eI)) ∧ (∀ a b (m : List (ByteArray × List Int)), upD (.string a) (.sl true 1 (b.map eI)) (m.map eWL) = (upd a b m).map eWL) :=
 ⟨ents_sl, lk_sl, up_sl⟩
theorem upd_new {α β : Type} [DecidableEq α] {a : α} (b : β) : ∀ {m : List (α × β)}, luk a m = none → upd a b m = m ++ [(a, b)]
 | [], _ => rfl
 | p :: m, h => by
  unfold luk at h
  unfold upd
  by_cases hp : p.1 = a
  ·rw [if_pos hp] at h; cases h
  ·rw [if_neg hp] at h ⊢
   rw [upd_new b h]; rfl
def wpF (c : UInt8) (s : ByteArray) : ByteArray × List Int := (mkWd c s, mkPs c s)
theorem luk_no {c : UInt8} {a : ByteArray} : ∀ {l : List ByteArray}, (∀ s ∈ l, mkWd c s ≠ a) → luk a (l.map (wpF c)) = none
 | [], _ => rfl
 | s :: l, h => by
  rw [List.map_cons, luk, if_neg (show ¬ (wpF c s).1 = a from h s (by simp))]
  exact luk_no fun x hx => h x (by simp [hx])
theorem wpF_succ {c : UInt8} {lt : Bool} {l : List ByteArray} (h : MkAll c lt l) {k : Nat} (hk : k < l.length) : luk (mkWd c l[k]) ((l.take k).map (wpF c)) = none ∧ upd (mkWd c l[k]) (mkPs c l[k]) ((l.take k).map (wpF c)) = (l.take (k + 1)).map (wpF c) := by
 have h1 : luk (mkWd c l[k]) ((l.take k).map (wpF c)) = none := luk_no fun s hs e => by
  obtain ⟨j, hj, rfl⟩ := List.getElem_of_mem hs
  rw [List.getElem_take] at e
  have hjk : j < k := by simp at hj; omega
  refine h.dis k hk j hjk ?_
  have := congrArg (fun x : ByteArray => x.data.toList) e
  simpa [mkWd] using this
 refine ⟨h1, ?_⟩
 rw [upd_new _ h1, List.take_add_one, List.getElem?_eq_getElem hk, List.map_append]
 rfl
theorem mkWd_list (c : UInt8) (s : ByteArray) : (mkWd c s).data.toList = mkL c s.data.toList := by simp [mkWd]
theorem mkWd_size (c : UInt8) (s : ByteArray) : (mkWd c s).size = (mkL c s.data.toList).length := by rw [← size_list, mkWd_list]
theorem mkPs_pos {c : UInt8} {s : ByteArray} (h : c ∈ s.data.toList) : 1 ≤ (mkPs c s).length := by
 have h1 := List.count_pos_iff.2 h
 have h2 := cutL_len c s.data.toList []
 rw [mkPs, List.length_tail, plF_len]
 omega
theorem mkWd_isWd {c : UInt8} {s : ByteArray} (h : MkG c false s) : isWd (mkWd c s) = true := by
 have h1 : bytesOk (mkWd c s) = true := by
  rw [bytesOk, mkWd_list, List.all_eq_true]
  exact fun b hb => (h.hb b hb).1
 have h2 := h.sz
 rw [isWd, h1, decide_eq_true (show 1 ≤ (mkWd c s).size ∧ (mkWd c s).size ≤ 30 by rw [mkWd_size]; exact h2)]
 rfl
theorem eN_def : ∀ p, eN p = [.pt true [(.v (.string (p.letters))), .sl true 1 (p.levels.map eI), (.v (.bool (p.first))), (.v (.bool (p.last)))]] := fun _ => rfl
def rC (pt ex br : List ByteArray) (lf rt : Int) : List SV := [.sl true 1 (pt.map eS), .sl true 1 (ex.map eS), .sl true 1 (br.map eS), (.v (.int .i64 lf)), (.v (.int .i64 rt))]
def fC (n : ByteArray) (bd : Int) (l : List Srt) : List SV := [(.v (.string (n))), (.v (.int .i64 bd)), .sl true 4 (l.map eT)]
set_option maxHeartbeats 32000000 in
theorem open_in (n : ByteArray) (bd : Int) (l : List Srt) (pt ex br : List ByteArray) (lf rt : Int) (hn : n.size ≤ 1000000000) (hs : ∀ s ∈ l, SrtOk s) (hok : FtOk n bd l)
  (h1 : ∀ s ∈ pt, s.size ≤ 1000000) (h2 : ∀ s ∈ ex, s.size ≤ 1000000) (h3 : ∀ s ∈ br, s.size ≤ 1000000) (hr : RlOk pt ex br lf rt) {w0 : World} {N : Nat} {kp : Hp} (hgl : glob w0) {tm : List (Nat × SV)} {K : SV → St → Prop} (ha : Vx.look tm 1000000 = .any)
  (h : ∀ ps : List Pat, (∀ p ∈ ps, PatOk p) → ps.length ≤ 1000 → K (.tup [.agg [(.v (.string (n))), (.v (.int .i64 bd)), .sl true 4 (l.map eT)], .box 6 0, (.v (.int .i64 0))]) ⟨(1000000, .any) :: tm, [some ⟨50, [(.v (.string (n))), (.v (.int .i64 bd)), .sl true 4 (l.map eT)]⟩, some ⟨53, [.sl true 1 (pt.map eS), .sl true 1 (ex.map eS), .sl true 1 (br.map eS), (.v (.int .i64 lf)), (.v (.int .i64 rt))]⟩, some ⟨50, [(.v (.string (n))), (.v (.int .i64 bd)), .sl true 4 (l.map eT)]⟩, some ⟨53, [.sl true 1 (pt.map eS), .sl true 1 (ex.map eS), .sl true 1 (br.map eS), (.v (.int .i64 lf)), (.v (.int .i64 rt))]⟩, some ⟨125, [(.v (.string (n))), (.v (.int .i64 bd)), .sl true 4 (l.map eT)]⟩, some ⟨53, [.sl true 1 (pt.map eS), .sl true 1 (ex.map eS), .sl true 1 (br.map eS), (.v (.int .i64 lf)), (.v (.int .i64 rt))]⟩, some ⟨134, [.sl true 1 (pt.map eS), .sl true 1 (ex.map eS), .sl true 1 (br.map eS), (.v (.int .i64 lf)), (.v (.int .i64 rt)), .row 2, .row 0, .row 1]⟩], [.own 132 0 ((ex.map (wpF 45)).map eWL), .own 132 0 ((br.map (wpF 124)).map eWL), .own 207 1 (ps.map eN)]⟩) :
  CallI ⟨Tryz.prog, w0, N, kp, pin0, false⟩ 61 [.agg [(.v (.string (n))), (.v (.int .i64 bd)), .sl true 4 (l.map eT)], .agg [.sl true 1 (pt.map eS), .sl true 1 (ex.map eS), .sl true 1 (br.map eS), (.v (.int .i64 lf)), (.v (.int .i64 rt))]] ⟨tm, [some ⟨50, [(.v (.string (n))), (.v (.int .i64 bd)), .sl true 4 (l.map eT)]⟩, some ⟨53, [.sl true 1 (pt.map eS), .sl true 1 (ex.map eS), .sl true 1 (br.map eS), (.v (.int .i64 lf)), (.v (.int .i64 rt))]⟩], []⟩ K ⟨⟩ := by
 have encs := And.intro encs (And.intro eT_def (And.intro eN_def (And.intro kd_mp (And.intro mapsL ha))))
 have hF := checkFountP_s n bd true l hn hs hok
 obtain ⟨hpats, hex, hbr, hsl, hsr⟩ := hr
 refine CallI.inlGK (rs := [.cell 4 125, .tmp 5, .tmp 6]) Tok (fun h => by first | cases h; done | rfl) Tryz.func61 rfl rfl rfl rfl (by simp) (.inl rfl) (fun ρ σ μ fr lp hfr => ?_) (by exact ⟨.any, rfl, ha⟩)
 simp only [↓sx0, sxE, encs, sevalprocAttr]
 refine CallI.fn (hF) (by simp only [sx3, encs, sxR, sevalprocAttr] <;> (try simp) <;> (try rfl)) ?_
 simp only [↓sx0, sxE, encs, sevalprocAttr]
 refine BrW.no (by simp) ?_
 simp only [↓sx0, sxE, encs, sevalprocAttr]
 refine CallI.inlGK (rs := [.tmp 2, .tmp 3, .tmp 4]) Tok (fun h => by first | cases h; done | rfl) Tryz.func95 rfl rfl rfl rfl (by simp) (by first | exact .inl rfl | exact .inr ⟨_, rfl, hfr⟩) (fun ρ σ μ fr lp hfr => ?_) (by refine ⟨_, ?_, rfl⟩; rfl)
 simp only [↓sx0, sxE, encs, sevalprocAttr]
 refine BrW.no (by omega) ?_
 simp only [↓sx0, sxE, encs, sevalprocAttr]
 refine LoopW.comp [1, 5, 29, 30, 31] (by simp only [sx2, encs, sxR, sevalprocAttr] <;> (try simp) <;> (try omega)) ?_
 simp only [sx2, sxR, sevalprocAttr]
 refine LoopW.up Tok (fun x : Nat × List Pat => [(31, (.v (.int .i64 ((x.1 : Int)))))]) (fun x => [(6, [.sl true 1 (pt.map eS), .sl true 1 (ex.map eS), .sl true 1 (br.map eS), (.v (.int .i64 lf)), (.v (.int .i64 rt)), .row 2, .row 0, .row 1])]) (fun x => []) (fun x => [.own 207 1 (x.2.map eN)]) (fun x => x.1 ≤ pt.length ∧ x.2.length = x.1 ∧ ∀ p ∈ x.2, PatOk p) (fun x => pt.length - x.1) ((0, [])) (by simp only [sx2, encs, sxR, sevalprocAttr] <;> (try simp) <;> (try omega)) ?_ ?_
 ·exact ⟨Nat.zero_le _, rfl, fun p hp => by cases hp⟩
 rintro ⟨k, ps⟩ ⟨hk, hpl, hpo⟩
 simp only at hk hpl hpo
 simp only [↓sx0, sxE, encs, sevalprocAttr]
 by_cases hk2 : k < pt.length
 ·refine BrW.yes (by omega) ?_
  simp only [↓sx0, sxE, encs, sevalprocAttr]
  refine IxW.nat hk2 ?_
  simp only [↓sx0, sxE, encs, sevalprocAttr]
  refine CallI.ctr (patternOf_s pt[k] (h1 _ (List.getElem_mem hk2)) (hpats.2 k hk2)) (by simp only [sx3, encs, sxR, sevalprocAttr] <;> (try simp) <;> (try rfl)) ?_
  rintro _ ⟨p, rfl, hp⟩
  simp only [↓sx0, sxE, encs, sevalprocAttr]
  repeat' (first | (with_reducible refine BrW.yes (by omega) ?_) | (with_reducible refine BrW.no (by omega) ?_) | (with_reducible refine BrW.dec (fun _ => ?_) (fun _ => ?_)) | (with_reducible refine BrW.of (fun _ => ?_) (fun _ => ?_)) | ((with_reducible refine Vc.go ?_ fun _ => ?_); (focus (first | omega | (simp only [InK]; omega) | (simp [InK] <;> omega)))) | simp only [↓sx0, sxE, encs, sevalprocAttr])
  have hmap : (ps ++ [p]).map eN = ps.map eN ++ [[.pt true [(.v (.string (p.letters))), .sl true 1 (p.levels.map eI), (.v (.bool (p.first))), (.v (.bool (p.last)))]]] := by simp [eN]
  refine ⟨(k + 1, ps ++ [p]), StLe.auto (by simp only [sx2, encs, sxR, sevalprocAttr] <;> (try simp [hmap, encs]) <;> (try omega)), ?_, ?_⟩
  ·refine ⟨hk2, by simp [hpl], fun q hq => ?_⟩
   rcases List.mem_append.1 hq with h | h
   ·exact hpo q h
   ·rw [List.mem_singleton.1 h]; exact hp
  ·simp only; omega
 refine BrW.no (by omega) ?_
 simp only [↓sx0, sxE, encs, sevalprocAttr]
 refine DrawW.plan Tok mixed (.q 0 <| .q 1 <| .q 2 <| .q 3 <| .q 4 <| .q 5 <| .q 6 <| .q 7 <| .q 8 <| .q 9 <| .q 10 <| .q 11 <| .q 12 <| .q 13 <| .q 14 <| .q 15 <| .done) (by kernel_rfl) (by kernel_rfl) ?_
 simp only [↓sx0, sxE, encs, sevalprocAttr]
 skip
 refine LoopW.comp [1, 5, 69, 70] (by simp only [sx2, encs, sxR, sevalprocAttr] <;> (try simp) <;> (try omega)) ?_
 simp only [sx2, sxR, sevalprocAttr]
 refine LoopW.up Tok (fun x : Nat => [(70, (.v (.int .i64 ((x : Int)))))]) (fun x => []) (fun x => [(0, (if 1 ≤ x then ex.map (wpF 45) else []).map eWL), (1, (if 2 ≤ x then br.map (wpF 124) else []).map eWL)]) (fun x => []) (fun x => x ≤ 2) (fun x => 2 - x) (0) (by simp only [sx2, encs, sxR, sevalprocAttr] <;> (try simp) <;> (try omega)) ?_ ?_
 ·omega
 rintro x hx
 have hx3 : x = 0 ∨ x = 1 ∨ x = 2 := by omega
 rcases hx3 with rfl | rfl | rfl
 ·have hlen := hex.len
  repeat' (first | (with_reducible refine BrW.yes (by omega) ?_) | (with_reducible refine BrW.no (by omega) ?_) | simp only [↓sx0, sxE, encs, sevalprocAttr] | (refine ArrIx.go (by omega) ?_))
  skip
  refine LoopW.comp [1, 5, 11, 69, 70, 78, 79, 80] (by simp only [sx2, encs, sxR, sevalprocAttr] <;> (try simp) <;> (try omega)) ?_
  simp only [sx2, sxR, sevalprocAttr]
  refine LoopW.up Tok (fun x : Nat => [(80, (.v (.int .i64 ((x : Int)))))]) (fun x => []) (fun x => [(0, ((ex.take x).map (wpF 45)).map eWL)]) (fun x => []) (fun x => x ≤ ex.length) (fun x => ex.length - x) (0) (by simp only [sx2, encs, sxR, sevalprocAttr] <;> (try simp) <;> (try omega)) ?_ ?_
  ·omega
  rintro x hx
  simp only [↓sx0, sxE, encs, sevalprocAttr]
  by_cases hx2 : x < ex.length
  ·have hg := hex.all x hx2
   obtain ⟨hw1, hw2⟩ := wpF_succ hex hx2
   refine BrW.yes (by omega) ?_
   simp only [↓sx0, sxE, encs, sevalprocAttr]
   refine IxW.nat hx2 ?_
   simp only [↓sx0, sxE, encs, sevalprocAttr]
   refine CallI.fnKI (parted_s ex[x] 45 (h2 _ (List.getElem_mem hx2)) hg.na) glob_ok hgl rfl hfr (by simp only [sx3, encs, sxR, sevalprocAttr] <;> (try simp) <;> (try rfl)) ?_
   simp only [↓sx0, sxE, encs, sevalprocAttr]
   have hR := right1_s (mkWd 45 ex[x]) (mkPs 45 ex[x]) (fun b hb => (hg.hb b (by rw [← mkWd_list]; exact hb)).2 rfl) (by rw [mkWd_size]; exact hg.sz)
   refine CallI.fn (hR) (by simp only [sx3, encs, sxR, sevalprocAttr] <;> (try simp) <;> (try rfl)) ?_
   simp only [↓sx0, sxE, encs, sevalprocAttr]
   refine BrW.ff (by rw [hw1]; rfl) ?_
   simp only [↓sx0, sxE, encs, sevalprocAttr]
   repeat ((with_reducible refine Vc.go ?_ fun _ => ?_); (focus (first | omega | (simp only [InK]; omega) | (simp [InK] <;> omega))); simp only [↓sx0, sxE, encs, sevalprocAttr])
   rw [hw2]
   refine ⟨x + 1, StLe.auto (by simp only [sx2, encs, sxR, sevalprocAttr] <;> (try simp) <;> (try omega)), ?_, ?_⟩
   ·omega
   ·omega
  ·have hxe : x = ex.length := by omega
   subst hxe
   rw [List.take_length]
   refine BrW.no (by omega) ?_
   simp only [↓sx0, sxE, encs, sevalprocAttr]
   repeat ((with_reducible refine Vc.go ?_ fun _ => ?_); (focus (first | omega | (simp only [InK]; omega) | (simp [InK] <;> omega))); simp only [↓sx0, sxE, encs, sevalprocAttr])
   refine ⟨1, StLe.auto (by simp only [sx2, encs, sxR, sevalprocAttr] <;> (try simp) <;> (try omega)), ?_, ?_⟩
   ·omega
   ·omega
 ·have hlen := hbr.len
  repeat' (first | (with_reducible refine BrW.yes (by omega) ?_) | (with_reducible refine BrW.no (by omega) ?_) | simp only [↓sx0, sxE, encs, sevalprocAttr] | (refine ArrIx.go (by omega) ?_))
  skip
  refine LoopW.comp [1, 5, 11, 69, 70, 78, 79, 80] (by simp only [sx2, encs, sxR, sevalprocAttr] <;> (try simp) <;> (try omega)) ?_
  simp only [sx2, sxR, sevalprocAttr]
  refine LoopW.up Tok (fun x : Nat => [(80, (.v (.int .i64 ((x : Int)))))]) (fun x => []) (fun x => [(1, ((br.take x).map (wpF 124)).map eWL)]) (fun x => []) (fun x => x ≤ br.length) (fun x => br.length - x) (0) (by simp only [sx2, encs, sxR, sevalprocAttr] <;> (try simp) <;> (try omega)) ?_ ?_
  ·omega
  rintro x hx
  simp only [↓sx0, sxE, encs, sevalprocAttr]
  by_cases hx2 : x < br.length
  ·have hg := hbr.all x hx2
   obtain ⟨hw1, hw2⟩ := wpF_succ hbr hx2
   refine BrW.yes (by omega) ?_
   simp only [↓sx0, sxE, encs, sevalprocAttr]
   refine IxW.nat hx2 ?_
   simp only [↓sx0, sxE, encs, sevalprocAttr]
   refine CallI.fnKI (parted_s br[x] 124 (h3 _ (List.getElem_mem hx2)) hg.na) glob_ok hgl rfl hfr (by simp only [sx3, encs, sxR, sevalprocAttr] <;> (try simp) <;> (try rfl)) ?_
   simp only [↓sx0, sxE, encs, sevalprocAttr]
   have hR := right2_s (mkWd 124 br[x]) (mkPs 124 br[x]) (mkWd_isWd hg) (mkPs_pos (hg.pn rfl))
   refine CallI.fn (hR) (by simp only [sx3, encs, sxR, sevalprocAttr] <;> (try simp) <;> (try rfl)) ?_
   simp only [↓sx0, sxE, encs, sevalprocAttr]
   refine BrW.ff (by rw [hw1]; rfl) ?_
   simp only [↓sx0, sxE, encs, sevalprocAttr]
   repeat ((with_reducible refine Vc.go ?_ fun _ => ?_); (focus (first | omega | (simp only [InK]; omega) | (simp [InK] <;> omega))); simp only [↓sx0, sxE, encs, sevalprocAttr])
   rw [hw2]
   refine ⟨x + 1, StLe.auto (by simp only [sx2, encs, sxR, sevalprocAttr] <;> (try simp) <;> (try omega)), ?_, ?_⟩
   ·omega
   ·omega
  ·have hxe : x = br.length := by omega
   subst hxe
   rw [List.take_length]
   refine BrW.no (by omega) ?_
   simp only [↓sx0, sxE, encs, sevalprocAttr]
   repeat ((with_reducible refine Vc.go ?_ fun _ => ?_); (focus (first | omega | (simp only [InK]; omega) | (simp [InK] <;> omega))); simp only [↓sx0, sxE, encs, sevalprocAttr])
   refine ⟨2, StLe.auto (by simp only [sx2, encs, sxR, sevalprocAttr] <;> (try simp) <;> (try omega)), ?_, ?_⟩
   ·omega
   ·omega
 ·have hW1 := withinT_s lf 1 10
  rw [decide_eq_true hsl] at hW1
  have hW2 := withinT_s rt 1 10
  rw [decide_eq_true hsr] at hW2
  simp only [↓sx0, sxE, encs, sevalprocAttr]
  refine CallI.fn (hW1) (by simp only [sx3, encs, sxR, sevalprocAttr] <;> (try simp) <;> (try rfl)) ?_
  simp only [↓sx0, sxE, encs, sevalprocAttr]
  refine CallI.fn (hW2) (by simp only [sx3, encs, sxR, sevalprocAttr] <;> (try simp) <;> (try rfl)) ?_
  simp only [↓sx0, sxE, encs, sevalprocAttr]
  repeat' (first | simp only [↓sx0, sxE, encs, sevalprocAttr] | (with_reducible refine BrW.no (by omega) ?_) | ((with_reducible refine BrW.no ?_ ?_); (focus (simp; done))))
  exact h ps hpo (by have := hpats.1; omega)
end Go.Proofs.YtgcmppghjfidfaaGreatDoor
/-
  Chapter 2, walks: hyphens of a word (only that there is an answer).
-/
namespace Go.Proofs.YtgcmppghjfidfaaGreatDoor
open Go Go.Vx
set_option maxRecDepth 20000
theorem luk_mem {c : UInt8} {a : ByteArray} {v : List Int} : ∀ {l : List ByteArray}, luk a (l.map (wpF c)) = some v → ∃ s ∈ l, v = mkPs c s
  | [], h => by cases h
  | s :: l, h => by
    rw [List.map_cons, luk] at h
    by_cases hs : (wpF c s).1 = a
    · rw [if_pos hs] at h; cases h; exact ⟨s, by simp, rfl⟩
    · rw [if_neg hs] at h
      obtain ⟨x, hx, e⟩ := luk_mem h
      exact ⟨x, by simp [hx], e⟩
theorem plF_bd : ∀ (l : List (List UInt8)) (n : Nat), ∀ p ∈ plF n l, (n : Int) ≤ p ∧ p ≤ ((n + l.flatten.length : Nat) : Int)
  | [], _, p, h => by cases h
  | a :: l, n, p, h => by
    rw [plF] at h
    rw [List.flatten_cons, List.length_append]
    rcases List.mem_cons.1 h with rfl | h
    · omega
    · have := plF_bd l _ p h
      omega
theorem mkPs_bd {c : UInt8} {s : ByteArray} {p : Int} (h : p ∈ mkPs c s) : 0 ≤ p ∧ p ≤ (s.size : Int) := by
  have h1 := plF_bd _ _ p (List.mem_of_mem_tail h)
  have h2 := congrArg List.length (cutL_flat c s.data.toList [])
  have h3 : (mkL c s.data.toList).length ≤ s.data.toList.length := List.length_filter_le _ _
  rw [List.nil_append] at h2
  rw [size_list] at h3
  omega
theorem mkPs_len {c : UInt8} {s : ByteArray} (h : s.size ≤ 1000000) : (mkPs c s).length ≤ 1000000 := by
  have h2 := cutL_len c s.data.toList []
  have h3 : s.data.toList.count c ≤ s.data.toList.length := List.count_le_length
  rw [size_list] at h3
  rw [mkPs, List.length_tail, plF_len]
  omega
theorem sxLk : (∀ st t m k b, opHt st (.lookup t m k b) = .no) ∧ (∀ st x, safe1 st .no x = True) ∧ (∀ p : Prop, (True ∧ p) = p) ∧ (∀ st, safe1 st .all .imm = True) ∧ (∀ k ds p l, frzTm k ds (p :: l) = (p.1, bxV [(k, ds)] p.2) :: frzTm k ds l) ∧ (∀ k ds, frzTm k ds [] = []) ∧ (∀ l, bxVals (none :: l) = bxVals l) ∧ (∀ γ rw l, renB γ rw (none :: l) = none :: renB γ rw l) ∧ (∀ β γ rw bx l k ks, leB β γ rw bx (none :: l) (k :: ks) = leB β γ rw bx l ks) := ⟨fun _ _ _ _ _ => rfl, fun _ _ => rfl, fun p => true_and p, fun _ => rfl, fun _ _ _ _ => rfl, fun _ _ => rfl, fun _ => rfl, fun _ _ _ => rfl, fun _ _ _ _ _ _ _ => rfl⟩
theorem kpWL (p : ByteArray × List Int) : kpL (eWL p) := by simp only [eWL, kpL, kpD, kpLL_map]; simp [eI, kpL, kpD]
set_option maxHeartbeats 32000000 in
theorem hyphens_s (pt ex br : List ByteArray) (ps : List Pat) (w : ByteArray) (lf rt : Int) (h2 : ∀ s ∈ ex, s.size ≤ 1000000) (hps : ∀ p ∈ ps, PatOk p) (hpl : ps.length ≤ 1000) (hw : w.size ≤ 1000000) (hside : (1 ≤ lf ∧ lf ≤ 10) ∧ 1 ≤ rt ∧ rt ≤ 10) :
    CtrM Tryz.prog 93 134 [.sl true 1 (pt.map eS), .sl true 1 (ex.map eS), .sl true 1 (br.map eS), (.v (.int .i64 lf)), (.v (.int .i64 rt)), .row 0, .row 1, .row 2] [.own 207 1 (ps.map eN), .own 132 0 ((ex.map (wpF 45)).map eWL), .own 132 0 ((br.map (wpF 124)).map eWL)] [(.v (.string (w)))]
      (fun sv cells' rw' => ∃ pl : List Int, sv = .row 3 ∧ cells' = [.sl true 1 (pt.map eS), .sl true 1 (ex.map eS), .sl true 1 (br.map eS), (.v (.int .i64 lf)), (.v (.int .i64 rt)), .row 0, .row 1, .row 2] ∧ rw' = [.own 207 1 (ps.map eN), .own 132 0 ((ex.map (wpF 45)).map eWL), .own 132 0 ((br.map (wpF 124)).map eWL), .own 3 1 (pl.map eI)] ∧ pl.length ≤ 1000001) := by
  have encs := And.intro (And.intro encs sxMut) (And.intro eN_def (And.intro kd_mp (And.intro mapsL sxLk)))
  refine CtrM.of (rs := [.tmp 4]) Tok Tryz.func93 rfl rfl rfl rfl (by simp [ofDL]) (by first | exact noFrz0 | exact noFrz1 _ _ _ | exact noFrz3 _ _ _ _ _ _ _ _ _) (fun w0 kp ρ σ μ np nsz => ?_)
  simp only [↓sx0, sxE, encs, sevalprocAttr]
  refine DrawW.plan Tok mixed (.q 0 <| .q 1 <| .q 2 <| .q 3 <| .q 4 <| .e 5 [3] <| .e 6 [] <| .q 7 <| .q 8 <| .q 9 <| .q 10 <| .q 11 <| .done) (by kernel_rfl) (by kernel_rfl) ?_
  simp only [↓sx0, sxE, encs, sevalprocAttr]
  refine CallI.ctr (small_s w hw) (by simp only [sx3, encs, sxR, sevalprocAttr] <;> (try simp) <;> (try rfl)) ?_
  rintro _ ⟨u, rfl, hu⟩
  simp only [↓sx0, sxE, encs, sevalprocAttr]
  rcases hlu : luk u (ex.map (wpF 45)) with _ | v
  · refine BrW.ff rfl ?_
    simp only [hlu, Option.map_none, Option.map_some, Option.getD_none, Option.getD_some, nilD]
    simp only [↓sx0, sxE, encs, sevalprocAttr]
    refine CallI.ctr (small_s w hw) (by simp only [sx3, encs, sxR, sevalprocAttr] <;> (try simp) <;> (try rfl)) ?_
    rintro _ ⟨u2, rfl, hu2⟩
    simp only [↓sx0, sxE, encs, sevalprocAttr]
    refine CallI.ctr (isSmallWordX_s u2 (by omega)) (by simp only [sx3, encs, sxR, sevalprocAttr] <;> (try simp) <;> (try rfl)) ?_
    rintro _ ⟨sw, rfl⟩
    simp only [↓sx0, sxE, encs, sevalprocAttr]
    refine BrW.of (fun hsw => ?_) (fun hsw => ?_)
    · simp only [↓sx0, sxE, encs, sevalprocAttr]
      refine CallI.inl (rs := [.tmp 4]) Tok Tryz.func139 rfl rfl rfl rfl (by simp) (fun ρ σ μ fr lp => ?_)
      simp only [↓sx0, sxE, encs, sevalprocAttr]
      refine CallI.ctr (small_s w hw) (by simp only [sx3, encs, sxR, sevalprocAttr] <;> (try simp) <;> (try rfl)) ?_
      rintro _ ⟨u3, rfl, hu3⟩
      simp only [↓sx0, sxE, encs, sevalprocAttr]
      repeat ((with_reducible refine Vc.go ?_ fun _ => ?_); (focus (first | omega | (simp only [InK]; omega) | (simp [InK] <;> omega))); simp only [↓sx0, sxE, encs, sevalprocAttr])
      rw [show ((u3.size : Int) + 1).toNat = u3.size + 1 by omega, show List.replicate (u3.size + 1) [D.v (.int .i64 0)] = (List.replicate (u3.size + 1) (0 : Int)).map eI by simp [eI]]
      refine LoopW.compG [0, 1, 2, 3] [1, 5, 19, 20, 21] (by simp only [sx2, encs, sxR, sevalprocAttr] <;> (try simp) <;> (try omega)) ?_
      simp only [sx2, sxR, sevalprocAttr]
      refine LoopW.up Tok (fun x : Nat × List Int => [(21, (.v (.int .i64 ((x.1 : Int)))))]) (fun x => []) (fun x => [(3, x.2.map eI)]) (fun x => []) (fun x => x.1 ≤ ps.length ∧ x.2.length = u3.size + 1 ∧ Lv9 x.2) (fun x => ps.length - x.1) ((0, List.replicate (u3.size + 1) 0)) (by simp only [sx2, encs, sxR, sevalprocAttr] <;> (try simp) <;> (try omega)) ?_ ?_
      · exact ⟨Nat.zero_le _, by simp, fun n hn => by rw [(List.mem_replicate.1 hn).2]; omega⟩
      rintro ⟨k, o⟩ ⟨hk, hol, ho9⟩
      simp only at hk hol ho9
      simp only [↓sx0, sxE, encs, sevalprocAttr]
      by_cases hk2 : k < ps.length
      · refine BrW.yes (by omega) ?_
        simp only [↓sx0, sxE, encs, sevalprocAttr]
        (with_reducible refine Vc.go ?_ fun _ => ?_); focus (first | omega | (simp only [InK]; omega) | (simp [InK] <;> omega))
        simp only [↓sx0, sxE, encs, sevalprocAttr]
        refine IxW.nat hk2 ?_
        simp only [↓sx0, sxE, encs, sevalprocAttr]
        refine CallI.ctr (in_s ps[k] u3 (hps _ (List.getElem_mem hk2)) (by omega)) (by simp only [sx3, encs, sxR, sevalprocAttr] <;> (try simp) <;> (try rfl)) ?_
        rintro _ ⟨lv, rfl, hll, hl9⟩
        simp only [↓sx0, sxE, encs, sevalprocAttr]
        refine LoopW.compG [0, 1, 2, 3] [1, 5, 19, 20, 21, 27, 28, 29] (by simp only [sx2, encs, sxR, sevalprocAttr] <;> (try simp) <;> (try omega)) ?_
        simp only [sx2, sxR, sevalprocAttr]
        refine LoopW.up Tok (fun x : Nat × List Int => [(29, (.v (.int .i64 ((x.1 : Int)))))]) (fun x => []) (fun x => [(3, x.2.map eI)]) (fun x => []) (fun x => x.1 ≤ lv.length ∧ x.2.length = u3.size + 1 ∧ Lv9 x.2) (fun x => lv.length - x.1) ((0, o)) (by simp only [sx2, encs, sxR, sevalprocAttr] <;> (try simp) <;> (try omega)) ?_ ?_
        · exact ⟨Nat.zero_le _, hol, ho9⟩
        rintro ⟨j, o⟩ ⟨hj, hol, ho9⟩
        simp only at hj hol ho9
        simp only [↓sx0, sxE, encs, sevalprocAttr]
        by_cases hj2 : j < lv.length
        · have hjo : j < o.length := by omega
          have b1 := hl9 _ (List.getElem_mem hj2)
          have b2 := ho9 _ (List.getElem_mem hjo)
          refine BrW.yes (by omega) ?_
          simp only [↓sx0, sxE, encs, sevalprocAttr]
          refine IxW.nat hj2 ?_
          simp only [↓sx0, sxE, encs, sevalprocAttr]
          (with_reducible refine Vc.go ?_ fun _ => ?_); focus (first | omega | (simp only [InK]; omega) | (simp [InK] <;> omega))
          simp only [↓sx0, sxE, encs, sevalprocAttr]
          refine IxW.nat hjo ?_
          simp only [↓sx0, sxE, encs, sevalprocAttr]
          repeat ((with_reducible refine Vc.go ?_ fun _ => ?_); (focus (first | omega | (simp only [InK]; omega) | (simp [InK] <;> omega))); simp only [↓sx0, sxE, encs, sevalprocAttr])
          rw [Int.toNat_natCast, modI]
          refine ⟨(j + 1, o.set j (max o[j] lv[j])), StLe.auto (by simp only [sx2, encs, sxR, sevalprocAttr] <;> (try simp) <;> (try omega)), ?_, ?_⟩
          · refine ⟨by simp only; omega, by simp [hol], fun n hn => ?_⟩
            rcases List.mem_or_eq_of_mem_set hn with hn | rfl
            · exact ho9 n hn
            · omega
          · simp only; omega
        · refine BrW.no (by omega) ?_
          simp only [↓sx0, sxE, encs, sevalprocAttr]
          repeat ((with_reducible refine Vc.go ?_ fun _ => ?_); (focus (first | omega | (simp only [InK]; omega) | (simp [InK] <;> omega))); simp only [↓sx0, sxE, encs, sevalprocAttr])
          refine ⟨(k + 1, o), StLe.auto (by simp only [sx2, encs, sxR, sevalprocAttr] <;> (try simp) <;> (try omega)), ?_, ?_⟩
          · exact ⟨hk2, hol, ho9⟩
          · simp only; omega
      · refine BrW.no (by omega) ?_
        simp only [↓sx0, sxE, encs, sevalprocAttr]
        skip
        refine LoopW.comp [0, 1, 5, 31, 32, 33] (by simp only [sx2, encs, sxR, sevalprocAttr] <;> (try simp) <;> (try omega)) ?_
        simp only [sx2, sxR, sevalprocAttr]
        refine LoopW.up Tok (fun x : Nat × List Int => [(5, .row 4), (33, (.v (.int .i64 ((x.1 : Int)))))]) (fun x => []) (fun x => []) (fun x => [.own 3 1 (x.2.map eI)]) (fun x => x.1 ≤ o.length ∧ x.2.length ≤ x.1 ∧ ∀ p ∈ x.2, 0 ≤ p ∧ p ≤ 1000001) (fun x => o.length - x.1) ((0, [])) (by simp only [sx2, encs, sxR, sevalprocAttr] <;> (try simp) <;> (try omega)) ?_ ?_
        · exact ⟨Nat.zero_le _, Nat.le_refl _, fun p hp => by cases hp⟩
        rintro ⟨j, pl⟩ ⟨hj, hpj, hpb⟩
        simp only at hj hpj hpb
        simp only [↓sx0, sxE, encs, sevalprocAttr]
        by_cases hj2 : j < o.length
        · have b2 := ho9 _ (List.getElem_mem hj2)
          repeat' (first | (with_reducible refine BrW.yes (by omega) ?_) | (with_reducible refine IxW.nat hj2 ?_) | simp only [↓sx0, sxE, encs, sevalprocAttr] | (with_reducible refine BrW.dec (fun hq => ?_) (fun hq => ?_)) | ((with_reducible refine Vc.go ?_ fun _ => ?_); (focus (first | omega | trivial | (simp only [InK]; omega) | (simp [InK] <;> omega)))))
          all_goals have hmap : (pl ++ [(j : Int)]).map eI = pl.map eI ++ [[.v (.int .i64 (j : Int))]] := by simp [eI]
          all_goals first
            | (refine ⟨(j + 1, pl), StLe.auto ?_, ?_, ?_⟩; (focus ((simp only [sx2, encs, sxR, sevalprocAttr] <;> (try simp [hmap, encs]) <;> (try omega)); done))
               · exact ⟨by simp only; omega, by simp only; omega, hpb⟩
               · simp only; omega
               done)
            | (refine ⟨(j + 1, pl ++ [(j : Int)]), StLe.auto ?_, ?_, ?_⟩; (focus ((simp only [sx2, encs, sxR, sevalprocAttr] <;> (try simp [hmap, encs]) <;> (try omega)); done))
               · refine ⟨by simp only; omega, by simp; omega, fun p hp => ?_⟩
                 rcases List.mem_append.1 hp with h | h
                 · exact hpb p h
                 · rw [List.mem_singleton.1 h]; omega
               · simp only; omega
               done)
        · refine BrW.no (by omega) ?_
          simp only [↓sx0, sxE, encs, sevalprocAttr]
          have hpl2 : pl.length ≤ 1000001 := by omega
          refine LoopW.comp [0, 1, 9, 46, 47, 48] (by simp only [sx2, encs, sxR, sevalprocAttr] <;> (try simp) <;> (try omega)) ?_
          simp only [sx2, sxR, sevalprocAttr]
          refine LoopW.up Tok (fun x : Nat × List Int => [(9, .row 4), (48, (.v (.int .i64 ((x.1 : Int)))))]) (fun x => []) (fun x => []) (fun x => [.own 3 1 (x.2.map eI)]) (fun x => x.1 ≤ pl.length ∧ x.2.length ≤ x.1) (fun x => pl.length - x.1) ((0, [])) (by simp only [sx2, encs, sxR, sevalprocAttr] <;> (try simp) <;> (try omega)) ?_ ?_
          · exact ⟨Nat.zero_le _, Nat.le_refl _⟩
          rintro ⟨i, ql⟩ ⟨hi, hqi⟩
          simp only at hi hqi
          simp only [↓sx0, sxE, encs, sevalprocAttr]
          by_cases hi2 : i < pl.length
          · obtain ⟨p1, p2⟩ := hpb _ (List.getElem_mem hi2)
            repeat' (first | (with_reducible refine BrW.yes (by omega) ?_) | (with_reducible refine IxW.nat hi2 ?_) | simp only [↓sx0, sxE, encs, sevalprocAttr] | (with_reducible refine BrW.dec (fun hq => ?_) (fun hq => ?_)) | ((with_reducible refine Vc.go ?_ fun _ => ?_); (focus (first | omega | trivial | (simp only [InK]; omega) | (simp [InK] <;> omega)))))
            all_goals have hmap : (ql ++ [pl[i]]).map eI = ql.map eI ++ [[.v (.int .i64 pl[i])]] := by simp [eI]
            all_goals first
              | (refine ⟨(i + 1, ql), StLe.auto ?_, ?_, ?_⟩; (focus ((simp only [sx2, encs, sxR, sevalprocAttr] <;> (try simp [hmap, encs]) <;> (try omega)); done))
                 · exact ⟨by simp only; omega, by simp only; omega⟩
                 · simp only; omega
                 done)
              | (refine ⟨(i + 1, ql ++ [pl[i]]), StLe.auto ?_, ?_, ?_⟩; (focus ((simp only [sx2, encs, sxR, sevalprocAttr] <;> (try simp [hmap, encs]) <;> (try omega)); done))
                 · exact ⟨by simp only; omega, by simp; omega⟩
                 · simp only; omega
                 done)
          · refine BrW.no (by omega) ?_
            simp only [↓sx0, sxE, encs, sevalprocAttr]
            refine EndM.r [some 1, some 2, some 3, some 4] (.row 3) [.sl true 1 (pt.map eS), .sl true 1 (ex.map eS), .sl true 1 (br.map eS), (.v (.int .i64 lf)), (.v (.int .i64 rt)), .row 0, .row 1, .row 2] [.own 207 1 (ps.map eN), .own 132 0 ((ex.map (wpF 45)).map eWL), .own 132 0 ((br.map (wpF 124)).map eWL), .own 3 1 (ql.map eI)] ?_ (by simp) (by simp only [sx2, encs, kpLL_map, List.map_cons, List.map_nil, sxR, sevalprocAttr] <;> simp [kpWL]) (by simp only [sx2, encs, kpLL_map, List.map_cons, List.map_nil, sxR, sevalprocAttr] <;> simp [kpWL]) (by simp only [sx2, encs, kpLL_map, List.map_cons, List.map_nil, sxR, sevalprocAttr] <;> simp [kpWL]) (by simp only [sx2, encs, kpLL_map, List.map_cons, List.map_nil, sxR, sevalprocAttr] <;> simp [kpWL]) (by simp only [sx2, encs, kpLL_map, List.map_cons, List.map_nil, sxR, sevalprocAttr] <;> simp [kpWL]) (by simp only [sx2, encs, kpLL_map, List.map_cons, List.map_nil, sxR, sevalprocAttr] <;> simp [kpWL])
            exact ⟨ql, rfl, rfl, rfl, by omega⟩
    · simp only [↓sx0, sxE, encs, sevalprocAttr]
      skip
      refine LoopW.comp [0, 1, 9, 46, 47, 48] (by simp only [sx2, encs, sxR, sevalprocAttr] <;> (try simp) <;> (try omega)) ?_
      simp only [sx2, sxR, sevalprocAttr]
      refine LoopW.up Tok (fun x : Nat => [(9, .row 3), (48, (.v (.int .i64 ((x : Int)))))]) (fun x => []) (fun x => []) (fun x => [.own 3 1 []]) (fun x => x = 0) (fun x => 0) (0) (by simp only [sx2, encs, sxR, sevalprocAttr] <;> (try simp) <;> (try omega)) ?_ ?_
      · rfl
      rintro x rfl
      simp only [↓sx0, sxE, encs, sevalprocAttr]
      refine EndM.r [some 0, some 1, some 2, some 3] (.row 3) [.sl true 1 (pt.map eS), .sl true 1 (ex.map eS), .sl true 1 (br.map eS), (.v (.int .i64 lf)), (.v (.int .i64 rt)), .row 0, .row 1, .row 2] [.own 207 1 (ps.map eN), .own 132 0 ((ex.map (wpF 45)).map eWL), .own 132 0 ((br.map (wpF 124)).map eWL), .own 3 1 []] ?_ (by simp) (by simp only [sx2, encs, kpLL_map, List.map_cons, List.map_nil, sxR, sevalprocAttr] <;> simp [kpWL]) (by simp only [sx2, encs, kpLL_map, List.map_cons, List.map_nil, sxR, sevalprocAttr] <;> simp [kpWL]) (by simp only [sx2, encs, kpLL_map, List.map_cons, List.map_nil, sxR, sevalprocAttr] <;> simp [kpWL]) (by simp only [sx2, encs, kpLL_map, List.map_cons, List.map_nil, sxR, sevalprocAttr] <;> simp [kpWL]) (by simp only [sx2, encs, kpLL_map, List.map_cons, List.map_nil, sxR, sevalprocAttr] <;> simp [kpWL]) (by simp only [sx2, encs, kpLL_map, List.map_cons, List.map_nil, sxR, sevalprocAttr] <;> simp [kpWL])
      exact ⟨[], rfl, rfl, rfl, by simp⟩
  · obtain ⟨se, hse, hve⟩ := luk_mem hlu
    have hvb : ∀ p ∈ v, 0 ≤ p ∧ p ≤ 1000000 := fun p hp => by
      rw [hve] at hp
      have := mkPs_bd hp; have := h2 _ hse
      omega
    have hvl : v.length ≤ 1000000 := by rw [hve]; exact mkPs_len (h2 _ hse)
    refine BrW.tt rfl ?_
    simp only [hlu, Option.map_none, Option.map_some, Option.getD_none, Option.getD_some, nilD]
    simp only [↓sx0, sxE, encs, sevalprocAttr]
    skip
    refine LoopW.comp [0, 1, 9, 46, 47, 48] (by simp only [sx2, encs, sxR, sevalprocAttr] <;> (try simp) <;> (try omega)) ?_
    simp only [sx2, sxR, sevalprocAttr]
    refine LoopW.up Tok (fun x : Nat × List Int => [(9, .row 3), (48, (.v (.int .i64 ((x.1 : Int)))))]) (fun x => []) (fun x => []) (fun x => [.own 3 1 (x.2.map eI)]) (fun x => x.1 ≤ v.length ∧ x.2.length ≤ x.1) (fun x => v.length - x.1) ((0, [])) (by simp only [sx2, encs, sxR, sevalprocAttr] <;> (try simp) <;> (try omega)) ?_ ?_
    · exact ⟨Nat.zero_le _, Nat.le_refl _⟩
    rintro ⟨j, pl⟩ ⟨hj, hpj⟩
    simp only at hj hpj
    simp only [↓sx0, sxE, encs, sevalprocAttr]
    by_cases hj2 : j < v.length
    · obtain ⟨p1, p2⟩ := hvb _ (List.getElem_mem hj2)
      repeat' (first | (with_reducible refine BrW.yes (by omega) ?_) | (with_reducible refine IxW.nat hj2 ?_) | simp only [↓sx0, sxE, encs, sevalprocAttr] | (with_reducible refine BrW.dec (fun hq => ?_) (fun hq => ?_)) | ((with_reducible refine Vc.go ?_ fun _ => ?_); (focus (first | omega | trivial | (simp only [InK]; omega) | (simp [InK] <;> omega)))))
      all_goals have hmap : (pl ++ [v[j]]).map eI = pl.map eI ++ [[.v (.int .i64 v[j])]] := by simp [eI]
      all_goals first
        | (refine ⟨(j + 1, pl), StLe.auto ?_, ?_, ?_⟩; (focus ((simp only [sx2, encs, sxR, sevalprocAttr] <;> (try simp [hmap, encs]) <;> (try omega)); done))
           · exact ⟨by simp only; omega, by simp only; omega⟩
           · simp only; omega
           done)
        | (refine ⟨(j + 1, pl ++ [v[j]]), StLe.auto ?_, ?_, ?_⟩; (focus ((simp only [sx2, encs, sxR, sevalprocAttr] <;> (try simp [hmap, encs]) <;> (try omega)); done))
           · exact ⟨by simp only; omega, by simp; omega⟩
           · simp only; omega
           done)
    · refine BrW.no (by omega) ?_
      simp only [↓sx0, sxE, encs, sevalprocAttr]
      refine EndM.r [some 0, some 1, some 2, some 3] (.row 3) [.sl true 1 (pt.map eS), .sl true 1 (ex.map eS), .sl true 1 (br.map eS), (.v (.int .i64 lf)), (.v (.int .i64 rt)), .row 0, .row 1, .row 2] [.own 207 1 (ps.map eN), .own 132 0 ((ex.map (wpF 45)).map eWL), .own 132 0 ((br.map (wpF 124)).map eWL), .own 3 1 (pl.map eI)] ?_ (by simp) (by simp only [sx2, encs, kpLL_map, List.map_cons, List.map_nil, sxR, sevalprocAttr] <;> simp [kpWL]) (by simp only [sx2, encs, kpLL_map, List.map_cons, List.map_nil, sxR, sevalprocAttr] <;> simp [kpWL]) (by simp only [sx2, encs, kpLL_map, List.map_cons, List.map_nil, sxR, sevalprocAttr] <;> simp [kpWL]) (by simp only [sx2, encs, kpLL_map, List.map_cons, List.map_nil, sxR, sevalprocAttr] <;> simp [kpWL]) (by simp only [sx2, encs, kpLL_map, List.map_cons, List.map_nil, sxR, sevalprocAttr] <;> simp [kpWL]) (by simp only [sx2, encs, kpLL_map, List.map_cons, List.map_nil, sxR, sevalprocAttr] <;> simp [kpWL])
      exact ⟨pl, rfl, rfl, rfl, by omega⟩
end Go.Proofs.YtgcmppghjfidfaaGreatDoor
/-
 Chapter 2, walks: set words of a list (the program).
-/
namespace Go.Proofs.YtgcmppghjfidfaaGreatDoor
open Go Go.Vx
set_option maxRecDepth 20000
def eWd (q : List Int × List Int) : List D := [.sl true 1 (q.1.map eI), .sl true 1 (q.2.map eI)]
def barsOf (br : List ByteArray) (w : ByteArray) : List Int := (luk w (br.map (wpF 124))).getD []
theorem barsOf_len {br : List ByteArray} (h : ∀ s ∈ br, s.size ≤ 1000000) (w : ByteArray) : (barsOf br w).length ≤ 1000000 := by
 unfold barsOf
 cases hl : luk w (br.map (wpF 124)) with
 | none => simp
 | some v =>
  obtain ⟨s, hs, rfl⟩ := luk_mem hl
  have h2 := cutL_len 124 s.data.toList []
  have h3 : s.data.toList.count 124 ≤ s.data.toList.length := List.count_le_length
  have h4 := h s hs
  rw [size_list] at h3
  show (mkPs 124 s).length ≤ 1000000
  rw [mkPs, List.length_tail, plF_len]
  omega
def WordsP (l : List Srt) (br ws : List ByteArray) (rr : Ret) : Prop := ∃ (e : Int) (ps : List (List Int × List Int)), rr = ⟨.tup [.sl true 2 (ps.map eWd), (.v (.int .i64 e))], []⟩ ∧ (e = 0 → ps.length = ws.length ∧ ∀ i (h : i < ps.length) (h2 : i < ws.length), SetR l ws[i] (barsOf br ws[i]) 0 (some ps[i].1))
set_option maxHeartbeats 32000000 in
theorem words_s (n : ByteArray) (bd : Int) (l : List Srt) (pt ex br ws : List ByteArray) (lf rt : Int) (hn : n.size ≤ 1000000000) (hs : ∀ s ∈ l, SrtOk s) (hok : FtOk n bd l)
  (h1 : ∀ s ∈ pt, s.size ≤ 1000000) (h2 : ∀ s ∈ ex, s.size ≤ 1000000) (h3 : ∀ s ∈ br, s.size ≤ 1000000) (hr : RlOk pt ex br lf rt) (hw : ws.length ≤ 1000000) :
  CtrK glob Tryz.prog 60 [.agg [(.v (.string (n))), (.v (.int .i64 bd)), .sl true 4 (l.map eT)], .agg [.sl true 1 (pt.map eS), .sl true 1 (ex.map eS), .sl true 1 (br.map eS), (.v (.int .i64 lf)), (.v (.int .i64 rt))], .sl true 1 (ws.map eS)] (WordsP l br ws) := by
 have encs := And.intro encs (And.intro eT_def (And.intro eN_def (And.intro kd_mp (And.intro mapsL sxLk))))
 have encs := And.intro encs sxMut
 have hll := hok.some
 refine CtrK.of (rs := [.tmp 6, .tmp 7]) Tok true Tryz.func60 rfl rfl rfl rfl (by simp [ofDL]) (fun w0 kp hgl => ?_)
 simp only [↓sx0, sxE, encs, sevalprocAttr]
 refine open_in n bd l pt ex br lf rt hn hs hok h1 h2 h3 hr hgl rfl fun ps hps hpsl => ?_
 simp only [↓sx0, sxE, encs, sevalprocAttr]
 refine BrW.no (by simp) ?_
 simp only [↓sx0, sxE, encs, sevalprocAttr]
 refine BrW.dec (fun hlen => ?_) (fun hlen => ?_)
 ·simp only [↓sx0, sxE, encs, sevalprocAttr]
  exact EndW.p (.tup [.sl true 2 [], (.v (.int .i64 8))]) ⟨8, [], rfl, fun h => by omega⟩ (by simp [leV, leL]) (by simp [kpV, kpVL, kpLL])
 simp only [↓sx0, sxE, encs, sevalprocAttr]
 refine LoopW.comp [8, 9, 11, 31, 32, 33] (by simp only [sx2, encs, sxR, sevalprocAttr] <;> (try simp) <;> (try omega)) ?_
 simp only [sx2, sxR, sevalprocAttr]
 refine LoopW.le (StLe.frzB base0 7 rfl rfl) ?_
 simp only [frzTm, bxV, bxL, ptB, assB, dropN, setN, sxL, sx2, encs, sxR, sevalprocAttr]
 refine LoopW.comp [8, 9, 11, 31, 32, 33] (by simp only [sx2, encs, sxR, sevalprocAttr] <;> (try simp) <;> (try omega)) ?_
 simp only [sx2, sxR, sevalprocAttr]
 refine LoopW.up Tok (fun x : Nat × List (List Int × List Int) => [(11, .row 3), (33, (.v (.int .i64 ((x.1 : Int)))))]) (fun x => []) (fun x => []) (fun x => [.own 123 2 (x.2.map eWd)]) (fun x => x.1 ≤ ws.length ∧ x.2.length = x.1 ∧ ∀ i (h : i < x.2.length) (h2 : i < ws.length), SetR l ws[i] (barsOf br ws[i]) 0 (some x.2[i].1)) (fun x => ws.length - x.1) ((0, [])) (by simp only [sx2, encs, sxR, sevalprocAttr] <;> (try simp) <;> (try omega)) ?_ ?_
 ·exact ⟨Nat.zero_le _, rfl, fun i h => by simp at h⟩
 rintro ⟨k, out⟩ ⟨hk, hol, hso⟩
 simp only at hk hol hso
 simp only [↓sx0, sxE, encs, sevalprocAttr]
 by_cases hk2 : k < ws.length
 ·refine BrW.yes (by omega) ?_
  simp only [↓sx0, sxE, encs, sevalprocAttr]
  refine IxW.nat hk2 ?_
  simp only [↓sx0, sxE, encs, sevalprocAttr]
  refine CallI.fn (isWordT_s ws[k]) (by simp only [sx3, encs, sxR, sevalprocAttr] <;> (try simp) <;> (try rfl)) ?_
  simp only [↓sx0, sxE, encs, sevalprocAttr]
  refine BrW.of (fun hiw => ?_) (fun hiw => ?_)
  rotate_left
  ·repeat' (first | (with_reducible refine BrW.yes (by omega) ?_) | (with_reducible refine BrW.no (by omega) ?_) | (with_reducible refine BrW.dec (fun _ => ?_) (fun _ => ?_)) | (with_reducible refine BrW.of (fun _ => ?_) (fun _ => ?_)) | ((with_reducible refine Vc.go ?_ fun _ => ?_); (focus (first | omega | (simp only [InK]; omega) | (simp [InK] <;> omega)))) | simp only [↓sx0, sxE, encs, sevalprocAttr])
   exact EndW.p (.tup [.sl true 2 [], (.v (.int .i64 3))]) ⟨3, [], rfl, fun h => by omega⟩ (by simp [leV, leL]) (by simp [kpV, kpVL, kpLL])
  simp only [↓sx0, sxE, encs, sevalprocAttr]
  have hws : ws[k].size ≤ 30 := by
   rw [isWd, Bool.and_eq_true, decide_eq_true_eq] at hiw
   exact hiw.2.2
  have hbl := barsOf_len h3 ws[k]
  refine DrawW.plan Tok mixed (.q 0 <| .q 1 <| .q 2 <| .q 3 <| .q 4 <| .q 5 <| .q 6 <| .e 7 [0] <| .e 8 [] <| .q 9 <| .q 10 <| .q 11 <| .q 12 <| .q 13 <| .done) (by kernel_rfl) (by kernel_rfl) ?_
  simp only [↓sx0, sxE, encs, sevalprocAttr]
  have hset := set_s n bd l ws[k] true (barsOf br ws[k]) (by omega) (by omega) hs hbl
  have hbO : ∀ {o : Option (List Int)}, luk ws[k] (br.map (wpF 124)) = o → barsOf br ws[k] = o.getD [] := fun h => by rw [barsOf, h]
  rcases hlk : luk ws[k] (br.map (wpF 124)) with _ | v
  all_goals
   rw [hbO hlk] at hset
   simp only [Option.getD_none, Option.getD_some] at hset
   simp only [hlk, Option.map_none, Option.map_some, Option.getD_none, Option.getD_some, nilD]
   simp only [↓sx0, sxE, encs, sevalprocAttr]
   refine CallI.ctr (hset) (by simp only [sx3, encs, sxR, sevalprocAttr] <;> (try simp) <;> (try rfl)) ?_
   rintro _ ⟨r, rfl, hR⟩
   rcases r with _ | q
   ·simp only [↓sx0, sxE, encs, sevalprocAttr]
    refine BrW.ff rfl ?_
    simp only [↓sx0, sxE, encs, sevalprocAttr]
    exact EndW.p (.tup [.sl true 2 [], (.v (.int .i64 6))]) ⟨6, [], rfl, fun h => by omega⟩ (by simp [leV, leL]) (by simp [kpV, kpVL, kpLL])
   ·simp only [↓sx0, sxE, encs, sevalprocAttr]
    refine BrW.tt rfl ?_
    simp only [↓sx0, sxE, encs, sevalprocAttr]
    have hqm := hR.mem q rfl
    have hql := hR.len q rfl
    refine DrawW.plan Tok mixed (.q 0 <| .q 1 <| .q 2 <| .q 3 <| .q 4 <| .q 5 <| .e 6 [2] <| .e 7 [] <| .q 8 <| .e 9 [] <| .e 10 [] <| .q 11 <| .done) (by kernel_rfl) (by kernel_rfl) ?_
    simp only [↓sx0, sxE, encs, sevalprocAttr]
    refine CallI.ctrM (k := 6) (γ := [some 0, some 1, some 2]) (hyphens_s pt ex br ps ws[k] lf rt h2 hps hpsl (by omega) hr.side) rfl (by simp only [sx2, encs, List.map_cons, List.map_nil, sxR, sevalprocAttr] <;> (try simp)) (by simp) (by simp only [sx2, encs, List.map_cons, List.map_nil, sxR, sevalprocAttr] <;> (try simp)) (by simp only [sx2, encs, List.map_cons, List.map_nil, sxR, sevalprocAttr] <;> (try simp)) (noGhB_spec rfl) ?_
    rintro _ _ _ ⟨pl, rfl, rfl, rfl, hpl⟩
    simp only [↓sx0, sxE, encs, sevalprocAttr]
    refine CallI.ctr (breaks_s n bd l true false q pl hs hqm (by omega) (by omega)) (by simp only [sx3, encs, sxR, sevalprocAttr] <;> (try simp) <;> (try rfl)) ?_
    rintro _ ⟨bk, rfl⟩
    simp only [↓sx0, sxE, encs, sevalprocAttr]
    repeat ((with_reducible refine Vc.go ?_ fun _ => ?_); (focus (first | omega | (simp only [InK]; omega) | (simp [InK] <;> omega))); simp only [↓sx0, sxE, encs, sevalprocAttr])
    have hmap : (out ++ [(q, bk)]).map eWd = out.map eWd ++ [[.sl true 1 (q.map eI), .sl true 1 (bk.map eI)]] := by simp [eWd]
    refine ⟨(k + 1, out ++ [(q, bk)]), StLe.auto (by simp only [sx2, encs, sxR, sevalprocAttr] <;> (try simp [hmap, encs]) <;> (try omega)), ?_, ?_⟩
    ·refine ⟨hk2, by simp [hol], fun i h h2 => ?_⟩
     by_cases hik : i < out.length
     ·simp only [List.getElem_append_left hik]; exact hso i hik h2
     ·have : i = k := by simp at h; omega
      subst this
      simp only [List.getElem_append_right (show out.length ≤ i by omega), hol, Nat.sub_self, List.getElem_cons_zero]
      rw [hbO hlk]; exact hR
    ·simp only; omega
 ·refine BrW.no (by omega) ?_
  simp only [↓sx0, sxE, encs, sevalprocAttr]
  exact EndW.p (.tup [.sl true 2 (out.map eWd), (.v (.int .i64 0))]) ⟨0, out, rfl, fun _ => ⟨by omega, hso⟩⟩ (by simp [leV, leL]) (by simp only [kpV, kpVL, kpLL_map]; simp [kpL, kpD, kpLL_map, eWd, eI])
end Go.Proofs.YtgcmppghjfidfaaGreatDoor
/-
 Chapter 2, walks: how often each sort stands in set words (the program).
-/
namespace Go.Proofs.YtgcmppghjfidfaaGreatDoor
open Go Go.Vx
set_option maxRecDepth 20000
def cntL (m : Nat) (a : List Int) : List Int := (List.range m).map fun (n : Nat) => ((a.count (n : Int) : Nat) : Int)
theorem cntL_len (m : Nat) (a : List Int) : (cntL m a).length = m := by simp [cntL]
theorem cntL_get {m : Nat} {a : List Int} {n : Nat} (h : n < (cntL m a).length) : (cntL m a)[n] = ((a.count (n : Int) : Nat) : Int) := by simp [cntL]
theorem cntL_snoc {m : Nat} {a : List Int} {n : Nat} (h : n < (cntL m a).length) : cntL m (a ++ [(n : Int)]) = (cntL m a).set n ((cntL m a)[n] + 1) := by
 apply List.ext_getElem
 ·simp [cntL]
 ·intro i h1 h2
  have hi : i < (cntL m a).length := by simpa using h2
  by_cases hin : n = i
  ·subst hin
   rw [List.getElem_set_self, cntL_get, cntL_get, List.count_append]
   simp
  ·have : ¬ ((n : Int) == (i : Int)) = true := by simpa using (show ¬ (n : Int) = (i : Int) by omega)
   rw [List.getElem_set_ne hin, cntL_get, cntL_get, List.count_append, List.count_singleton, if_neg this]; simp
theorem count_le (a : List Int) (n : Int) : a.count n ≤ a.length := List.count_le_length
/-- the sorts of all words of a copy. -/
structure QsOk (l : List Srt) (br : List ByteArray) (lp : List Pt) (qs : List (List (List Int))) : Prop where
 len : qs.length = lp.length
 wlen : ∀ i (h : i < lp.length) (h2 : i < qs.length), qs[i].length = lp[i].words.length
 set : ∀ i (h : i < lp.length) (h2 : i < qs.length) k (h3 : k < lp[i].words.length) (h4 : k < qs[i].length), SetR l lp[i].words[k] (barsOf br lp[i].words[k]) 0 (some qs[i][k])
theorem ffl_take {α : Type} {l : List (List α)} {i : Nat} (h : i < l.length) : (l.take (i + 1)).flatten = (l.take i).flatten ++ l[i] := by
 rw [List.take_add_one, List.getElem?_eq_getElem h, List.flatten_append]
 simp
theorem ffl_pre {α : Type} (l : List (List α)) (i : Nat) (h : i < l.length) (k : Nat) : (l.take i).flatten ++ l[i].take k <+: l.flatten := by
 refine ⟨l[i].drop k ++ (l.drop (i + 1)).flatten, ?_⟩
 rw [List.append_assoc, ← List.append_assoc (l[i].take k), List.take_append_drop, ← List.append_assoc, ← ffl_take h, ← List.flatten_append, List.take_append_drop]
set_option maxHeartbeats 32000000 in
theorem needs_s (n : ByteArray) (bd : Int) (l : List Srt) (pt ex br : List ByteArray) (lp : List Pt) (lf rt : Int) (hn : n.size ≤ 1000000000) (hs : ∀ s ∈ l, SrtOk s) (hok : FtOk n bd l)
  (h1 : ∀ s ∈ pt, s.size ≤ 1000000) (h2 : ∀ s ∈ ex, s.size ≤ 1000000) (h3 : ∀ s ∈ br, s.size ≤ 1000000) (hr : RlOk pt ex br lf rt) (hpe : (partsErr lp).2 = 0) (hsz : ∀ p ∈ lp, p.words.length ≤ 1000000 ∧ ∀ w ∈ p.words, w.size ≤ 1000000) (hlp : lp.length ≤ 1000000)
  (qs : List (List (List Int))) (hqs : QsOk l br lp qs) (htot : qs.flatten.flatten.length ≤ 1000000) :
  CtrK glob Tryz.prog 26 [.agg [(.v (.string (n))), (.v (.int .i64 bd)), .sl true 4 (l.map eT)], .agg [.sl true 1 (pt.map eS), .sl true 1 (ex.map eS), .sl true 1 (br.map eS), (.v (.int .i64 lf)), (.v (.int .i64 rt))], .sl true 2 (lp.map (eP true))] (fun rr => rr = ⟨.tup [.sl true 1 ((cntL l.length qs.flatten.flatten).map eI), (.v (.int .i64 0))], []⟩) := by
 have encs := And.intro encs (And.intro eT_def (And.intro eN_def (And.intro kd_mp (And.intro mapsL sxLk))))
 have hll := hok.some
 have hcnt0 : (cntL l.length []).map eI = List.replicate l.length [.v (.int .i64 0)] := by
  apply List.ext_getElem
  ·simp [cntL]
  ·intro i a b; simp [cntL, eI]
 refine CtrK.of (rs := [.tmp 6, .tmp 7]) Tok true Tryz.func26 rfl rfl rfl rfl (by simp [ofDL]) (fun w0 kp hgl => ?_)
 simp only [↓sx0, sxE, encs, sevalprocAttr]
 refine open_in n bd l pt ex br lf rt hn hs hok h1 h2 h3 hr hgl rfl fun ps hps hpsl => ?_
 simp only [↓sx0, sxE, encs, sevalprocAttr]
 repeat' (first | (with_reducible refine BrW.no (by omega) ?_) | ((with_reducible refine BrW.no ?_ ?_); (focus (simp; done))) | simp only [↓sx0, sxE, encs, sevalprocAttr])
 have hcp := checkParts_s true true lp
 rw [hpe] at hcp
 refine CallI.fn (hcp) (by simp only [sx3, encs, sxR, sevalprocAttr] <;> (try simp) <;> (try rfl)) ?_
 simp only [↓sx0, sxE, encs, sevalprocAttr]
 repeat' (first | (with_reducible refine BrW.no (by omega) ?_) | ((with_reducible refine BrW.no ?_ ?_); (focus (simp; done))) | simp only [↓sx0, sxE, encs, sevalprocAttr])
 repeat ((with_reducible refine Vc.go ?_ fun _ => ?_); (focus (first | omega | (simp only [InK]; omega) | (simp [InK] <;> omega))); simp only [↓sx0, sxE, encs, sevalprocAttr])
 rw [Int.toNat_natCast, ← hcnt0]
 refine LoopW.compG [0, 1, 2, 3] [8, 9, 13, 45, 46, 47] (by simp only [sx2, encs, sxR, sevalprocAttr] <;> (try simp) <;> (try omega)) ?_
 simp only [sx2, sxR, sevalprocAttr]
 refine LoopW.up Tok (fun x : Nat => [(47, (.v (.int .i64 ((x : Int)))))]) (fun x => []) (fun x => [(3, (cntL l.length (qs.take x).flatten.flatten).map eI)]) (fun x => []) (fun x => x ≤ lp.length) (fun x => lp.length - x) (0) (by simp only [sx2, encs, sxR, sevalprocAttr] <;> (try simp) <;> (try omega)) ?_ ?_
 ·exact Nat.zero_le _
 rintro i hi
 simp only [↓sx0, sxE, encs, sevalprocAttr]
 by_cases hi2 : i < lp.length
 ·have hiq : i < qs.length := by have := hqs.len; omega
  obtain ⟨z1, z2⟩ := hsz _ (List.getElem_mem hi2)
  have hwl := hqs.wlen i hi2 hiq
  have hset := hqs.set i hi2 hiq
  have hnext : (qs.take (i + 1)).flatten.flatten = (qs.take i).flatten.flatten ++ qs[i].flatten := by rw [ffl_take hiq, List.flatten_append]
  have hpre : ∀ k (hk : k < qs[i].length) j, ((qs.take i).flatten.flatten ++ (qs[i].take k).flatten ++ qs[i][k].take j).length ≤ 1000000 := fun k hk j => by
   have a1 := (ffl_pre qs[i] k hk j).length_le
   have a2 := (ffl_pre qs i hiq qs[i].length).length_le
   have a3 : ((qs.take i).flatten.flatten ++ qs[i].flatten).length ≤ qs.flatten.flatten.length := by
    rw [← hnext]
    conv => rhs; rw [← List.take_append_drop (i + 1) qs, List.flatten_append, List.flatten_append, List.length_append]
    omega
   simp only [List.length_append] at a1 a3 ⊢
   omega
  refine BrW.yes (by omega) ?_
  simp only [↓sx0, sxE, encs, sevalprocAttr]
  refine IxW.nat hi2 ?_
  simp only [↓sx0, sxE, encs, sevalprocAttr]
  refine LoopW.compG [0, 1, 2, 3] [8, 9, 13, 45, 46, 47, 52, 53, 54] (by simp only [sx2, encs, sxR, sevalprocAttr] <;> (try simp) <;> (try omega)) ?_
  simp only [sx2, sxR, sevalprocAttr]
  refine LoopW.up Tok (fun x : Nat => [(54, (.v (.int .i64 ((x : Int)))))]) (fun x => []) (fun x => [(3, (cntL l.length ((qs.take i).flatten.flatten ++ (qs[i].take x).flatten)).map eI)]) (fun x => []) (fun x => x ≤ lp[i].words.length) (fun x => lp[i].words.length - x) (0) (by simp only [sx2, encs, sxR, sevalprocAttr] <;> (try simp) <;> (try omega)) ?_ ?_
  ·exact Nat.zero_le _
  rintro k hk
  simp only [↓sx0, sxE, encs, sevalprocAttr]
  by_cases hk2 : k < lp[i].words.length
  ·have hkq : k < qs[i].length := by omega
   have hsR := hset k hk2 hkq
   have hwz := z2 _ (List.getElem_mem hk2)
   have hbl := barsOf_len h3 lp[i].words[k]
   refine BrW.yes (by omega) ?_
   simp only [↓sx0, sxE, encs, sevalprocAttr]
   refine IxW.nat hk2 ?_
   simp only [↓sx0, sxE, encs, sevalprocAttr]
   refine DrawW.plan Tok mixed (.q 0 <| .q 1 <| .q 2 <| .q 3 <| .q 4 <| .q 5 <| .q 6 <| .e 7 [0] <| .e 8 [] <| .q 9 <| .q 10 <| .q 11 <| .q 12 <| .q 13 <| .done) (by kernel_rfl) (by kernel_rfl) ?_
   simp only [↓sx0, sxE, encs, sevalprocAttr]
   have hst := set_s n bd l lp[i].words[k] true (barsOf br lp[i].words[k]) hwz (by omega) hs hbl
   have hbO : ∀ {o : Option (List Int)}, luk lp[i].words[k] (br.map (wpF 124)) = o → barsOf br lp[i].words[k] = o.getD [] := fun h => by rw [barsOf, h]
   rcases hlk : luk lp[i].words[k] (br.map (wpF 124)) with _ | v
   all_goals
    rw [hbO hlk] at hst hsR
    simp only [Option.getD_none, Option.getD_some] at hst hsR
    simp only [hlk, Option.map_none, Option.map_some, Option.getD_none, Option.getD_some, nilD]
    simp only [↓sx0, sxE, encs, sevalprocAttr]
    refine CallI.ctr (hst) (by simp only [sx3, encs, sxR, sevalprocAttr] <;> (try simp) <;> (try rfl)) ?_
    rintro _ ⟨r, rfl, hR⟩
    have hrq : r = some qs[i][k] := hR.det hsR
    subst hrq
    have hqm := hsR.mem _ rfl
    have hPk := hpre k hkq
    generalize hP : (qs.take i).flatten.flatten ++ (qs[i].take k).flatten = P at hPk ⊢
    have hP1 : P ++ qs[i][k] = (qs.take i).flatten.flatten ++ (qs[i].take (k + 1)).flatten := by rw [ffl_take hkq, ← List.append_assoc, hP]
    generalize qs[i][k] = q at hqm hPk hP1 ⊢
    simp only [Option.getD_some, Option.isSome_some]
    have hql : q.length ≤ 1000000 := by
     have := hPk q.length
     rw [List.take_length, List.length_append] at this
     omega
    simp only [↓sx0, sxE, encs, sevalprocAttr]
    refine LoopW.compG [0, 1, 2, 3] [8, 9, 13, 45, 46, 47, 52, 53, 54, 72, 73, 74] (by simp only [sx2, encs, sxR, sevalprocAttr] <;> (try simp) <;> (try omega)) ?_
    simp only [sx2, sxR, sevalprocAttr]
    refine LoopW.up Tok (fun x : Nat => [(74, (.v (.int .i64 ((x : Int)))))]) (fun x => []) (fun x => [(3, (cntL l.length (P ++ q.take x)).map eI)]) (fun x => []) (fun x => x ≤ q.length) (fun x => q.length - x) (0) (by simp only [sx2, encs, sxR, sevalprocAttr] <;> (try simp) <;> (try omega)) ?_ ?_
    ·exact Nat.zero_le _
    rintro j hj
    simp only [↓sx0, sxE, encs, sevalprocAttr]
    by_cases hj2 : j < q.length
    ·obtain ⟨e1, e2⟩ := hqm _ (List.getElem_mem hj2)
     obtain ⟨m, hm⟩ : ∃ m : Nat, q[j] = (m : Int) := ⟨q[j].toNat, by omega⟩
     have hml : m < (cntL l.length (P ++ q.take j)).length := by rw [cntL_len]; omega
     have hcb := cntL_get hml
     have hc2 := count_le (P ++ q.take j) (m : Int)
     have hc3 := hPk j
     have hsn := cntL_snoc hml
     have htk : P ++ q.take (j + 1) = P ++ q.take j ++ [(m : Int)] := by
      rw [List.take_add_one, List.getElem?_eq_getElem hj2, hm, List.append_assoc]; rfl
     rw [← htk] at hsn
     refine BrW.yes (by omega) ?_
     simp only [↓sx0, sxE, encs, sevalprocAttr]
     refine IxW.nat hj2 ?_
     rw [hm]
     simp only [↓sx0, sxE, encs, sevalprocAttr]
     (with_reducible refine Vc.go ?_ fun _ => ?_); focus (first | omega | (simp only [InK]; omega) | (simp [InK] <;> omega))
     simp only [↓sx0, sxE, encs, sevalprocAttr]
     refine IxW.nat hml ?_
     simp only [↓sx0, sxE, encs, sevalprocAttr]
     repeat ((with_reducible refine Vc.go ?_ fun _ => ?_); (focus (first | omega | (simp only [InK]; omega) | (simp [InK] <;> omega))); simp only [↓sx0, sxE, encs, sevalprocAttr])
     rw [Int.toNat_natCast, modI, ← hsn]
     refine ⟨j + 1, StLe.auto (by simp only [sx2, encs, sxR, sevalprocAttr] <;> (try simp) <;> (try omega)), ?_, ?_⟩
     ·omega
     ·omega
    ·have hje : j = q.length := by omega
     subst hje
     rw [List.take_length, hP1]
     refine BrW.no (by omega) ?_
     simp only [↓sx0, sxE, encs, sevalprocAttr]
     repeat ((with_reducible refine Vc.go ?_ fun _ => ?_); (focus (first | omega | (simp only [InK]; omega) | (simp [InK] <;> omega))); simp only [↓sx0, sxE, encs, sevalprocAttr])
     refine ⟨k + 1, StLe.auto (by simp only [sx2, encs, sxR, sevalprocAttr] <;> (try simp) <;> (try omega)), ?_, ?_⟩
     ·omega
     ·omega
  ·have hke : k = qs[i].length := by omega
   subst hke
   rw [List.take_length, ← hnext]
   refine BrW.no (by omega) ?_
   simp only [↓sx0, sxE, encs, sevalprocAttr]
   repeat ((with_reducible refine Vc.go ?_ fun _ => ?_); (focus (first | omega | (simp only [InK]; omega) | (simp [InK] <;> omega))); simp only [↓sx0, sxE, encs, sevalprocAttr])
   refine ⟨i + 1, StLe.auto (by simp only [sx2, encs, sxR, sevalprocAttr] <;> (try simp) <;> (try omega)), ?_, ?_⟩
   ·omega
   ·omega
 ·have hie : i = qs.length := by have := hqs.len; omega
  subst hie
  rw [List.take_length]
  refine BrW.no (by omega) ?_
  simp only [↓sx0, sxE, encs, sevalprocAttr]
  refine EndW.fn ?_ ?_ <;> simp only [sx4, encs, kpLL_map, sxR, sevalprocAttr] <;> (try simp) <;> (try omega)
end Go.Proofs.YtgcmppghjfidfaaGreatDoor
/-
 Chapter 8, walks: a copy in memory of its own, with the words of one part still own.
-/
namespace Go.Proofs.YtgcmppghjfidfaaGreatDoor
open Go Go.Vx
set_option maxRecDepth 20000
theorem cloneS_s (b : Bool) (els : List (List D)) (hk : kpLL els) (hl : els.length ≤ 1000000) : Ctr Tryz.prog 81 [.sl b 1 els] (fun rr => rr = ⟨.row 0, [.own 9 1 els]⟩) := by
 refine Ctr.of (rs := [.tmp 2]) Tok false Tryz.func81 rfl rfl rfl rfl (by simp [ofDL]) (fun w0 kp => ?_)
 simp only [↓sx0, xE, sevalprocAttr]
 intro z hz
 refine BrW.of (fun h => ?_) (fun h => ?_)
 ·simp only [↓sx0, xE, sevalprocAttr]
  rw [hz h]
  exact EndW.r [none] (by simp) (by simp only [sx4, sxF, xK, sevalprocAttr] <;> simp) (by simp only [sx4, sxF, xK, sevalprocAttr] <;> simp) (by simp only [sx4, sxF, xK, sevalprocAttr] <;> simp) (by simp only [sx4, sxF, xK, sevalprocAttr] <;> simp)
 ·simp only [↓sx0, xE, sevalprocAttr]
  (with_reducible refine Vc.go ?_ fun _ => ?_); focus (first | omega | (simp only [InK]; omega) | (simp [InK] <;> omega))
  simp only [↓sx0, xE, sevalprocAttr]
  exact EndW.r [some 1] (by simp) (by simp only [sx4, sxF, xK, sevalprocAttr] <;> simp [hk]) (by simp only [sx4, sxF, xK, sevalprocAttr] <;> simp [hk]) (by simp only [sx4, sxF, xK, sevalprocAttr] <;> simp [hk]) (by simp only [sx4, sxF, xK, sevalprocAttr] <;> simp [hk])
theorem kpS (l : List ByteArray) : kpLL (l.map eS) := by simp [kpLL_map, eS, kpL, kpD]
theorem kpP (l : List Pt) : kpLL (l.map (eP true)) := by simp [kpLL_map, eP, eS, kpL, kpD]
/-- the parts so far; of part i the words are own, the value is 'u'. -/
def elsA (l : List Pt) (i : Nat) (u : Value) : List (List D) := (l.map (eP true)).set i [.v (.int .i64 (l.getD i ⟨0, []⟩).kind), .v u]
theorem elsA_first {l : List Pt} {i : Nat} (hi : i < l.length) (u : Value) : ((l.take i).map (eP true)) ++ [[.v (.int .i64 l[i].kind), .v u]] = elsA (l.take (i + 1)) i u := by
 unfold elsA
 rw [List.take_succ_eq_append_getElem hi, List.map_append, List.set_append_right _ _ (by simp; omega)]
 have : (List.take i l ++ [l[i]]).getD i ⟨0, []⟩ = l[i] := by
  rw [List.getD_eq_getElem?_getD, List.getElem?_append_right (by simp; omega)]
  simp [show i - min i l.length = 0 by omega]
 rw [this]
 simp [show i - min i l.length = 0 by omega]
theorem elsA_next {l : List Pt} {i k : Nat} (hi : i < k) (hk : k < l.length) (u : Value) : elsA (l.take k) i u ++ [eP true l[k]] = elsA (l.take (k + 1)) i u := by
 unfold elsA
 rw [List.take_succ_eq_append_getElem hk, List.map_append, List.set_append_left _ _ (by simp; omega)]
 have : (List.take k l ++ [l[k]]).getD i ⟨0, []⟩ = (List.take k l).getD i ⟨0, []⟩ := by
  simp only [List.getD_eq_getElem?_getD]
  rw [List.getElem?_append_left (by simp; omega)]
 rw [this]
 rfl
theorem kpA (l : List Pt) (i : Nat) (u : Value) : kpLL (elsA l i u) := by
 rw [kpLL_all]
 intro e he
 rcases List.mem_or_eq_of_mem_set he with h | h
 ·have := kpP l; rw [kpLL_all] at this; exact this e h
 ·subst h; simp [kpL, kpD]
def gA (i k : Nat) : Option Value → SV
 | none => if k = i then .arm else .any
 | some u => .ali 1 u
def rwA (l : List Pt) (i k : Nat) : Option Value → List Rw
 | none => [.own 81 2 ((l.take k).map (eP true))]
 | some u => [.own 81 2 (elsA (l.take k) i u), .own 9 1 ((l.getD i ⟨0, []⟩).words.map eS)]
def JA (l : List Pt) (i k : Nat) : Option Value → Prop
 | none => k ≤ i
 | some u => i < k ∧ k ≤ l.length ∧ ∃ ad n c, u = .slice (some ad) n c
set_option maxHeartbeats 4000000 in
theorem clone_s (b b2 : Bool) (l : List Pt) (i : Nat) (hl : l.length ≤ 1000) (hi : i < l.length) (hw : ∀ p ∈ l, p.words.length ≤ 1000) (hn : 0 < l[i].words.length) :
  CtrA Tryz.prog 49 [.sl b 2 (l.map (eP b2))] (fun r k u => k = 1 ∧ (∃ ad n c, u = .slice (some ad) n c) ∧ r = ⟨.row 0, [.own 81 2 (elsA l i u), .own 9 1 (l[i].words.map eS)]⟩) := by
 refine CtrA.of (rs := [.tmp 2]) Tok Tryz.func49 rfl rfl rfl rfl (by simp [ofDL]) (fun w0 kp => ?_)
 simp only [↓sx0, xE, sevalprocAttr]
 have wl : ∀ k (h : k < l.length), (l[k].words.map eS).length ≤ 1000000 := fun k h => by have := hw _ (List.getElem_mem h); simp; omega
 refine LoopW.inv Tok (fun x : Nat × Option Value => ⟨[(3, .row 0), (8, (.v (.int .i64 x.1))), (6, .sl b 2 (l.map (eP b2))), (7, (.v (.int .i64 l.length))), (1000000, gA i x.1 x.2)], [], rwA l i x.1 x.2⟩) (fun x => JA l i x.1 x.2) (fun x => l.length - x.1) (0, none) (StLe.trans StLe.arm (StLe.auto ?_)) (Nat.zero_le i) ?_
 ·by_cases hz : 0 = i
  ·simp only [gA, rwA, if_pos hz, List.take_zero, List.map_nil]
   simp only [sx2, xR, sevalprocAttr] <;> (try simp) <;> (try omega)
  ·simp only [gA, rwA, if_neg hz, List.take_zero, List.map_nil]
   simp only [sx2, xR, sevalprocAttr] <;> (try simp) <;> (try omega)
 rintro ⟨k, _ | u⟩ hJ
 ·simp only [JA] at hJ
  have hkl : k < l.length := by omega
  by_cases hki : k = i
  ·subst hki
   simp only [gA, rwA, if_true]
   simp only [↓sx0, xE, sevalprocAttr]
   refine BrW.yes (by omega) ?_
   simp only [↓sx0, xE, sevalprocAttr]
   refine IxW.nat hkl ?_
   simp only [↓sx0, xE, sevalprocAttr]
   refine DrawW.plan Tok mixed (.q 0 <| .q 1 <| .q 2 <| .q 3 <| .q 4 <| .e 5 [2] <| .q 6 <| .e 7 [] <| .e 8 [] <| .q 9 <| .done) (by kernel_rfl) (by kernel_rfl) ?_
   simp only [↓sx0, xE, sevalprocAttr]
   refine CallI.ctr (cloneS_s b2 _ (kpS l[k].words) (wl k hkl)) (by simp only [sx3, xR, sevalprocAttr] <;> (try simp) <;> (try rfl)) ?_
   rintro _ rfl
   simp only [↓sx0, xE, sevalprocAttr]
   (with_reducible refine Vc.go ?_ fun _ => ?_)
   ·simpa using hn
   intro ad n0 c0
   simp only [↓sx0, xE, sevalprocAttr]
   repeat ((with_reducible refine Vc.go ?_ fun _ => ?_); (focus (first | omega | (simp only [InK]; omega) | (simp [InK] <;> omega))); simp only [↓sx0, xE, sevalprocAttr])
   refine ⟨(k + 1, some (.slice (some ad) n0 c0)), StLe.auto ?_, ⟨by omega, by omega, ad, n0, c0, rfl⟩, by simp only; omega⟩
   have hf := elsA_first hkl (.slice (some ad) n0 c0)
   have hgd : l.getD k ⟨0, []⟩ = l[k] := by simp [List.getD_eq_getElem?_getD, hkl]
   simp only [gA, rwA, hgd, ← hf]
   simp only [sx2, xR, sevalprocAttr] <;> (try simp) <;> (try omega)
  ·simp only [gA, rwA, if_neg hki]
   simp only [↓sx0, xE, sevalprocAttr]
   refine BrW.yes (by omega) ?_
   simp only [↓sx0, xE, sevalprocAttr]
   refine IxW.nat hkl ?_
   simp only [↓sx0, xE, sevalprocAttr]
   refine DrawW.plan Tok mixed (.q 0 <| .q 1 <| .q 2 <| .q 3 <| .q 4 <| .e 5 [2] <| .q 6 <| .e 7 [] <| .e 8 [] <| .q 9 <| .done) (by kernel_rfl) (by kernel_rfl) ?_
   simp only [↓sx0, xE, sevalprocAttr]
   refine CallI.ctr (cloneS_s b2 _ (kpS l[k].words) (wl k hkl)) (by simp only [sx3, xR, sevalprocAttr] <;> (try simp) <;> (try rfl)) ?_
   rintro _ rfl
   simp only [↓sx0, xE, sevalprocAttr]
   repeat ((with_reducible refine Vc.go ?_ fun _ => ?_); (focus (first | omega | (simp only [InK]; omega) | (simp [InK] <;> omega))); simp only [↓sx0, xE, sevalprocAttr])
   refine ⟨(k + 1, none), StLe.trans StLe.arm (StLe.auto ?_), (by simp only [JA]; omega), by simp only; omega⟩
   have hf : (l.take k).map (eP true) ++ [eP true l[k]] = (l.take (k + 1)).map (eP true) := by rw [List.take_succ_eq_append_getElem hkl, List.map_append]; rfl
   by_cases hz : k + 1 = i
   ·simp only [gA, rwA, if_pos hz, ← hf]
    simp only [sx2, xR, sevalprocAttr] <;> (try simp) <;> (try omega)
   ·simp only [gA, rwA, if_neg hz, ← hf]
    simp only [sx2, xR, sevalprocAttr] <;> (try simp) <;> (try omega)
 ·obtain ⟨h1, h2, ad, n0, c0, rfl⟩ := hJ
  have hgd : l.getD i ⟨0, []⟩ = l[i] := by simp [List.getD_eq_getElem?_getD, hi]
  simp only [gA, rwA, hgd]
  simp only [↓sx0, xE, sevalprocAttr]
  refine BrW.dec (fun hlt => ?_) (fun hlt => ?_)
  ·simp only [↓sx0, xE, sevalprocAttr]
   have hkl : k < l.length := by omega
   have hel : (elsA (l.take k) i (.slice (some ad) n0 c0)).length ≤ 1000 := by simp [elsA]; omega
   refine IxW.nat hkl ?_
   simp only [↓sx0, xE, sevalprocAttr]
   refine DrawW.plan Tok mixed (.q 0 <| .q 1 <| .q 2 <| .q 3 <| .q 4 <| .e 5 [2] <| .q 6 <| .e 7 [] <| .e 8 [] <| .q 9 <| .done) (by kernel_rfl) (by kernel_rfl) ?_
   simp only [↓sx0, xE, sevalprocAttr]
   refine CallI.ctr (cloneS_s b2 _ (kpS l[k].words) (wl k hkl)) (by simp only [sx3, xR, sevalprocAttr] <;> (try simp) <;> (try rfl)) ?_
   rintro _ rfl
   simp only [↓sx0, xE, sevalprocAttr]
   repeat ((with_reducible refine Vc.go ?_ fun _ => ?_); (focus (first | omega | (simp only [InK]; omega) | (simp [InK] <;> omega))); simp only [↓sx0, xE, sevalprocAttr])
   refine ⟨(k + 1, some (.slice (some ad) n0 c0)), StLe.auto ?_, ⟨by simp only; omega, by simp only; omega, ad, n0, c0, rfl⟩, by simp only; omega⟩
   have hf := elsA_next (l := l) h1 hkl (.slice (some ad) n0 c0)
   simp only [gA, rwA, hgd, ← hf]
   simp only [sx2, xR, sevalprocAttr] <;> (try simp) <;> (try omega)
  ·simp only [↓sx0, xE, sevalprocAttr]
   have hke : k = l.length := by simp only at h2; omega
   subst hke
   rw [List.take_length]
   refine ⟨[some 0, some 1], ⟨.row 0, [.own 81 2 (elsA l i (.slice (some ad) n0 c0)), .own 9 1 (l[i].words.map eS)]⟩, 1, .slice (some ad) n0 c0, ⟨rfl, ⟨ad, n0, c0, rfl⟩, rfl⟩, by simp, ?_, ?_, ?_, ?_, ?_⟩
   all_goals (
    simp only [sxL, sxF, sxG, sxY, sxH, sxU, encs, sxN, sevalprocAttr, ne_eq, decide_true, decide_false]
    try simp [kpA, kpS] )
end Go.Proofs.YtgcmppghjfidfaaGreatDoor
/-
 Chapter 8: words are put in between, by the library's own contract.
-/
namespace Go.Proofs.YtgcmppghjfidfaaGreatDoor
open Go Go.Vx Go.Shelf Go.RowKit
def rIns : Ren := ⟨fun | 22 => 122 | 29 => 162 | 30 => 163 | 36 => 199 | 17 => 225 | n => n, fun | 24 => 51 | 9 => 9 | 3 => 3 | 4 => 4 | 0 => 0 | n => n, fun n => n⟩
set_option maxRecDepth 100000 in
theorem laysIns : Lays2.n22 Tryz.prog rIns := { mixed := rfl, f17 := Tryz.func225, f22 := Tryz.func122, f29 := Tryz.func162, f30 := Tryz.func163, f36 := Tryz.func199, t0 := Tryz.underlying0, a0 := Tryz.isAgg0, z0 := Tryz.sizeOf0, v0 := Tryz.zeroValue0, t3 := Tryz.underlying3, a3 := Tryz.isAgg3, z3 := Tryz.sizeOf3, v3 := Tryz.zeroValue3, t4 := Tryz.underlying4, a4 := Tryz.isAgg4, z4 := Tryz.sizeOf4, v4 := Tryz.zeroValue4, t9 := Tryz.underlying9, a9 := Tryz.isAgg9, z9 := Tryz.sizeOf9, v9 := Tryz.zeroValue9, t24 := Tryz.underlying51, a24 := Tryz.isAgg51, z24 := Tryz.sizeOf51, v24 := Tryz.zeroValue51, i9 := rfl }
def vS (l : List ByteArray) : List Value := l.map Value.string
theorem rdLL_str {μ : Mu} : ∀ {l : List ByteArray} {vss : List (List Value)}, RdLL μ (l.map eS) vss → vss.flatten = vS l ∧ vss.length = l.length
 | [], [], _ => ⟨rfl, rfl⟩
 | x :: l, vs :: vss, h => by
  simp only [List.map_cons, RdLL, eS] at h
  obtain ⟨h1, h2⟩ := h
  match vs, h1 with
  | [v], h1 =>
   simp only [RdL, Rd] at h1
   obtain ⟨k1, k2⟩ := rdLL_str h2
   exact ⟨by simp [k1, vS, h1.1.1], by simp [k2]⟩
  | [], h1 => simp [RdL] at h1
  | _ :: _ :: _, h1 => simp [RdL] at h1
 | [], _ :: _, h => by simp [RdLL] at h
 | _ :: _, [], h => by simp [RdLL] at h
theorem rdLL_of {μ : Mu} : ∀ l : List ByteArray, RdLL μ (l.map eS) (l.map fun s => [Value.string s])
 | [] => by simp [RdLL]
 | x :: l => by simp only [List.map_cons, RdLL, eS, RdL, Rd]; exact ⟨⟨⟨trivial, rfl⟩, trivial⟩, rdLL_of l⟩
theorem fl_str (l : List ByteArray) : (l.map fun s => [Value.string s]).flatten = vS l := by
 induction l with
 | nil => rfl
 | cons x l ih => simp [ih, vS]
/-- an own row of texts. -/
theorem rowOk_str {μ : Mu} {base : Nat} {w : World} {v : Value} {e : TypeId} {l : List ByteArray} : RowOk μ base w v e 1 (l.map eS) ↔ w.ownsRow base e 1 v l.length (vS l) := by
 constructor
 ·intro h
  obtain ⟨_, vss, h1, h2, h3⟩ := h.tab (by decide)
  obtain ⟨k1, k2⟩ := rdLL_str h3
  rwa [k1, k2] at h1
 ·intro h
  exact .inl ⟨by decide, l.map fun s => [Value.string s], by rw [fl_str, List.length_map]; exact h, by simp, rdLL_of l⟩
theorem vS_len (l : List ByteArray) : (vS l).length = l.length := by simp [vS]
theorem vS_one (l : List ByteArray) : ∀ v ∈ vS l, v.oneCell' = true := fun v hv => by
 obtain ⟨s, _, rfl⟩ := List.mem_map.1 hv; rfl
/-- what stands after an insertion in place. -/
theorem ins_list {L A B R : List Value} {r0 t : Value} (hL : L = A ++ (B ++ r0 :: R)) : (updV (updV L (A.length + 1) B) A.length [t]).take (A.length + B.length + 1) = A ++ t :: B := by
 have hl : L.length = A.length + B.length + 1 + R.length := by rw [hL]; simp; omega
 apply List.ext_getElem?
 intro k
 simp only [updV, List.getElem?_take, List.getElem?_append, List.getElem?_drop, List.length_append, List.length_take, List.length_drop, List.length_singleton, hl]
 have e1 : min (A.length + 1) (A.length + B.length + 1 + R.length) = A.length + 1 := by omega
 have e2 : min A.length (A.length + 1 + B.length + (A.length + B.length + 1 + R.length - (A.length + 1 + B.length))) = A.length := by omega
 simp only [e1, e2]
 by_cases q1 : k < A.length
 ·rw [hL]
  simp [q1, show k < A.length + 1 by omega, show k < A.length + B.length + 1 by omega, show k < A.length + 1 + B.length by omega, List.getElem?_append]
 ·by_cases q2 : k = A.length
  ·subst q2
   simp
   omega
  ·by_cases q3 : k < A.length + B.length + 1
   ·obtain ⟨m, rfl⟩ : ∃ m, k = A.length + 1 + m := ⟨k - (A.length + 1), by omega⟩
    simp [q3, show ¬ A.length + 1 + m < A.length by omega, show A.length + 1 + m - A.length = m + 1 by omega, show ¬ A.length + 1 + (A.length + 1 + m - (A.length + 1)) < A.length + 1 by omega, show m < B.length by omega, show A.length + 1 + m - (A.length + 1) = m by omega, show ¬ m + 1 < 1 by omega, Nat.add_assoc]
    rw [if_pos (by omega), if_neg (by omega), show 1 + m = m + 1 by omega, List.getElem?_cons_succ]
    congr 1
    omega
   ·obtain ⟨m, rfl⟩ : ∃ m, k = A.length + B.length + 1 + m := ⟨k - (A.length + B.length + 1), by omega⟩
    rw [if_neg q3, if_neg (by omega), show A.length + B.length + 1 + m - A.length = (B.length + m) + 1 by omega, List.getElem?_cons_succ, List.getElem?_eq_none (by omega)]
theorem updV_at (A M R vs : List Value) (h : M.length = vs.length) : updV (A ++ (M ++ R)) A.length vs = A ++ (vs ++ R) := by
 unfold updV
 rw [List.take_left, ← h, ← List.drop_drop, List.drop_left, List.drop_left, List.append_assoc]
theorem insert_s (l : List ByteArray) (i : Nat) (t : ByteArray) (hi : i < l.length) (hl : l.length ≤ 1000000) : Turn2 Tryz.prog 122 9 1 (l.map eS) (.int .i64 (i : Int)) 9 1 [[.v (.string t)]] ((l.take i ++ t :: l.drop i).map eS) := by
 refine ⟨⟨_, Tryz.func122, rfl, rfl⟩, fun μ w base v u hb hv hu hne => ?_⟩
 have hu : RowOk μ base w u 9 1 ([t].map eS) := hu
 rw [rowOk_str] at hv hu
 obtain ⟨_, ⟨_, h0⟩ | ⟨ub, uc, ucur, rfl, ub1, ub2, ub3, ub4, ub5, ub6⟩⟩ := hu
 ·simp at h0
 obtain ⟨_, ⟨_, h0⟩ | ⟨b, c, cur, rfl, vb1, vb2, vb3, vb4, vb5, vb6⟩⟩ := hv
 ·omega
 simp only [Nat.mul_one] at vb5 vb6 ub5 ub6
 have hbu : ub ≠ b := fun h => hne b rfl (by rw [h]; rfl)
 have hvs : ∀ (j : Nat) (x : Value), (vS [t])[j]? = some x → w.cell? ⟨ub, 0 + j, none⟩ = some x := fun j x hj => by
  simp only [World.cell?, ub2, Nat.zero_add, Option.isSome_none, Bool.false_eq_true, if_false]
  rw [← ub6, List.getElem?_take] at hj
  split at hj
  ·simpa using hj
  ·cases hj
 have hcs : ∀ (j : Nat) (x : Value), (vS l)[j]? = some x → w.cell? ⟨b, 0 + j, none⟩ = some x := fun j x hj => by
  simp only [World.cell?, vb2, Nat.zero_add, Option.isSome_none, Bool.false_eq_true, if_false]
  rw [← vb6, List.getElem?_take] at hj
  split at hj
  ·simpa using hj
  ·cases hj
 have hA : (vS l).take i = vS (l.take i) := by simp [vS, List.map_take]
 have hB : (vS l).drop i = vS (l.drop i) := by simp [vS, List.map_drop]
 have hlen : (l.take i).length = i := by rw [List.length_take]; omega
 have hlen2 : (l.drop i).length = l.length - i := by simp
 have hres : vS (l.take i ++ t :: l.drop i) = vS (l.take i) ++ Value.string t :: vS (l.drop i) := by simp [vS]
 have hrl : (l.take i ++ t :: l.drop i).length = l.length + 1 := by simp; omega
 by_cases hroom : l.length + 1 ≤ c
 ·have hsp : ∀ j, j < l.length + 1 → (w.cell? ⟨b, 0 + j, none⟩).isSome = true := fun j hj => by
   simp only [World.cell?, vb2, Nat.zero_add, Option.isSome_none, Bool.false_eq_true, if_false]
   simp; omega
  have h := Any2.slices_Insert_string_shift laysIns b 0 l.length c i ub 0 1 uc (vS l) (vS [t]) w hi (by decide) hroom (by simp only [maxLen] at vb4; omega) hbu (vS_len l) rfl hcs hsp (fun j _ => by simp [World.frozen?, vb2]) hvs (vS_one l) (vS_one [t]) 9 9 uc c (by simp [World.shape?, ub2, ub5]) (by simp [World.shape?, vb2, vb5]) (by omega) (by simp [World.frozen?, ub2]) (by simp [World.frozen?, ub2])
  refine Calls.mono h ?_
  rintro en w' ⟨rfl, rfl⟩
  obtain ⟨c1, k1, k2⟩ := setCells_heap ((vS l).drop i) (0 + (i + 1)) w.drew cur (t := 9) (fz := (0, 0)) vb2 (by simp [vS]; omega)
  have k2l : c1.size = c := by rw [← Array.length_toList, k2, updV_len (by simp [vS]; omega)]; simp [vb5]
  obtain ⟨c2, k3, k4⟩ := setCells_heap (vS [t]) (0 + i) _ c1 k1 (by simp [vS]; omega)
  have k4l : c2.size = c := by rw [← Array.length_toList, k4, updV_len (by simp [vS]; omega)]; simp [k2l]
  obtain ⟨o1, o2, o3, o4⟩ := setCells_rest w.drew b (0 + (i + 1)) ((vS l).drop i)
  obtain ⟨p1, p2, p3, p4⟩ := setCells_rest (w.drew.setCells b (0 + (i + 1)) ((vS l).drop i)) b (0 + i) (vS [t])
  refine ⟨_, rfl, ?_, ⟨_, _, _, rfl⟩, ⟨p1.trans o1, p2.trans o2, p3.trans o3, by rw [p4, o4]; exact Nat.le_refl _, fun x hx hxb => ?_, fun x hx => .inl hx⟩⟩
  ·rw [rowOk_str]
   refine ⟨by rw [vS_len, Nat.mul_one], .inr ⟨b, c, c2, by rw [hrl], vb1, k3, by rw [hrl]; exact hroom, vb4, by rw [Nat.mul_one]; exact k4l, ?_⟩⟩
   obtain ⟨r0, R, hR⟩ : ∃ r0 R, cur.toList.drop l.length = r0 :: R := by
    cases hd : cur.toList.drop l.length with
    | nil => have := congrArg List.length hd; simp at this; omega
    | cons a b => exact ⟨a, b, rfl⟩
   have hcur : cur.toList = vS (l.take i) ++ (vS (l.drop i) ++ r0 :: R) := by
    rw [← List.append_assoc, ← hA, ← hB, List.take_append_drop, ← hR, ← vb6, List.take_append_drop]
   have := ins_list (t := Value.string t) hcur
   rw [vS_len, vS_len, hlen, hlen2] at this
   rw [k4, k2, hrl, Nat.mul_one, hres, hB, Nat.zero_add, Nat.zero_add, show l.length + 1 = i + (l.length - i) + 1 by omega]
   exact this
  ·rw [World.heap_setCells_other _ _ _ _ (by rw [o4]; exact hx) (fun e => hxb (by rw [e]; rfl))]
   exact World.heap_setCells_other w.drew b _ _ hx (fun e => hxb (by rw [e]; rfl))
 ·have h := Any2.slices_Insert_string_grow laysIns b 0 l.length c i ub 0 1 uc (vS l) (vS [t]) w hi (by decide) vb3 (by omega) (by omega) (vS_len l) rfl hcs hvs (vS_one l) (vS_one [t])
  refine Calls.mono h ?_
  generalize hZ1 : Builtin.zeroCells (Value.string ⟨#[]⟩).cells (l.length + 1 - i) = Z1
  generalize hZ2 : Builtin.zeroCells (Value.string ⟨#[]⟩).cells (grownCap w (l.length + 1) c (rIns.t 9) - (l.length + 1)) = Z2
  have hge := grownCap_ge w (l.length + 1) c (rIns.t 9)
  have hle := grownCap_le_maxLen w (l.length + 1) c (rIns.t 9) (by simp only [maxLen]; omega)
  have z1 : Z1.size = l.length + 1 - i := by rw [← hZ1, size_zeroCells]; simp [Value.cells]
  have z2 : Z2.size = grownCap w (l.length + 1) c (rIns.t 9) - (l.length + 1) := by rw [← hZ2, size_zeroCells]; simp [Value.cells]
  generalize grownCap w (l.length + 1) c (rIns.t 9) = C2 at hge hle z2 ⊢
  rintro en w' ⟨rfl, rfl⟩
  have hc0 : (((vS l).take i).toArray ++ Z1 ++ Z2).size = C2 := by simp [z1, z2, vS]; omega
  have hcl : (((vS l).take i).toArray ++ Z1 ++ Z2).toList.length = C2 := by rw [Array.length_toList]; exact hc0
  have hN := heap_alloc_new w (.cells (((vS l).take i).toArray ++ Z1 ++ Z2) 9)
  obtain ⟨c1, k1, k2⟩ := setCells_heap (vS [t]) i (w.alloc (.cells (((vS l).take i).toArray ++ Z1 ++ Z2) 9)).drew _ (t := 9) (fz := (0, 0)) hN (by rw [hc0]; simp [vS]; omega)
  have k2l : c1.size = C2 := by rw [← Array.length_toList, k2, updV_len (by rw [hcl]; simp [vS]; omega), hcl]
  obtain ⟨c2, k3, k4⟩ := setCells_heap ((vS l).drop i) (i + 1) ((w.alloc (.cells (((vS l).take i).toArray ++ Z1 ++ Z2) 9)).drew.setCells w.heap.size i (vS [t])).drew c1 k1 (by rw [k2l]; simp [vS]; omega)
  have k4l : c2.size = C2 := by rw [← Array.length_toList, k4, updV_len (by rw [show c1.toList.length = C2 by rw [Array.length_toList]; exact k2l]; simp [vS]; omega), Array.length_toList, k2l]
  obtain ⟨o1, o2, o3, o4⟩ := setCells_rest (w.alloc (.cells (((vS l).take i).toArray ++ Z1 ++ Z2) 9)).drew w.heap.size i (vS [t])
  obtain ⟨p1, p2, p3, p4⟩ := setCells_rest ((w.alloc (.cells (((vS l).take i).toArray ++ Z1 ++ Z2) 9)).drew.setCells w.heap.size i (vS [t])).drew w.heap.size (i + 1) ((vS l).drop i)
  have hBel : Below w.heap.size w (w.alloc (.cells (((vS l).take i).toArray ++ Z1 ++ Z2) 9)) := (Below.refl _ _).alloc (Nat.le_refl _) _
  refine ⟨_, rfl, ?_, ⟨_, _, _, rfl⟩, ⟨p1.trans (o1.trans hBel.os), p2.trans (o2.trans hBel.tape), p3.trans (o3.trans hBel.output), ?_, fun x hx hxb => ?_, fun x hx => .inr ?_⟩⟩
  ·rw [rowOk_str]
   refine ⟨by rw [vS_len, Nat.mul_one], .inr ⟨w.heap.size, C2, c2, by rw [hrl], hb, k3, by rw [hrl]; exact hge, hle, by rw [Nat.mul_one]; exact k4l, ?_⟩⟩
   rw [k4, k2, hrl, Nat.mul_one, hres, hB]
   have hZ : (Z1 ++ Z2).toList = Z1.toList.take 1 ++ (Z1.toList.drop 1 ++ Z2.toList) := by
    rw [Array.toList_append, ← List.append_assoc, List.take_append_drop]
   have e1 : (((vS l).take i).toArray ++ Z1 ++ Z2).toList = vS (l.take i) ++ (Z1.toList.take 1 ++ (Z1.toList.drop 1 ++ Z2.toList)) := by
    rw [Array.append_assoc, Array.toList_append, hZ, hA]
   have hz11 : (Z1.toList.take 1).length = (vS [t]).length := by simp [vS, z1]; omega
   have hi2 : i = (vS (l.take i)).length := by rw [vS_len, hlen]
   have e2 : updV (((vS l).take i).toArray ++ Z1 ++ Z2).toList i (vS [t]) = (vS (l.take i) ++ vS [t]) ++ (Z1.toList.drop 1 ++ Z2.toList) := by
    rw [e1]
    conv => lhs; arg 2; rw [hi2]
    rw [updV_at _ _ _ _ hz11, List.append_assoc]
   rw [e2]
   have e3 : updV ((vS (l.take i) ++ vS [t]) ++ (Z1.toList.drop 1 ++ Z2.toList)) (i + 1) (vS (l.drop i)) = (vS (l.take i) ++ vS [t]) ++ (vS (l.drop i) ++ Z2.toList) := by
    have := updV_at (vS (l.take i) ++ vS [t]) (Z1.toList.drop 1) Z2.toList (vS (l.drop i)) (by rw [vS_len, hlen2]; simp [z1]; omega)
    rwa [show (vS (l.take i) ++ vS [t]).length = i + 1 by rw [List.length_append, vS_len, hlen]; rfl] at this
   rw [e3, ← List.append_assoc, List.take_left' (by simp [vS]; omega)]
   simp [vS]
  ·exact Nat.le_trans (Nat.le_trans hBel.size (Nat.le_of_eq o4.symm)) (Nat.le_of_eq p4.symm)
  ·have q1 : x < ((w.alloc (.cells (((vS l).take i).toArray ++ Z1 ++ Z2) 9)).drew.setCells w.heap.size i (vS [t])).drew.heap.size := Nat.lt_of_lt_of_le (Nat.lt_of_lt_of_le hx hBel.size) (Nat.le_of_eq o4.symm)
   have q2 := World.heap_setCells_other ((w.alloc (.cells (((vS l).take i).toArray ++ Z1 ++ Z2) 9)).drew.setCells w.heap.size i (vS [t])).drew w.heap.size (i + 1) ((vS l).drop i) q1 (by omega)
   have q3 := World.heap_setCells_other (w.alloc (.cells (((vS l).take i).toArray ++ Z1 ++ Z2) 9)).drew w.heap.size i (vS [t]) (Nat.lt_of_lt_of_le hx hBel.size) (by omega)
   exact q2.trans (q3.trans (hBel.block x hx))
  ·simp only [ob, Value.ownBlock, Option.some.injEq] at hx
   omega
end Go.Proofs.YtgcmppghjfidfaaGreatDoor
/-
 Chapter 8, walks: marks are right.
-/
namespace Go.Proofs.YtgcmppghjfidfaaGreatDoor
open Go Go.Vx
set_option maxRecDepth 20000
def inR (m : Mk) : Bool := decide (0 ≤ m.part ∧ m.part ≤ 59) && decide (0 ≤ m.word ∧ m.word ≤ 100)
theorem inRange_s (m : Mk) : Ctr Tryz.prog 100 [mV m] (fun rr => rr = ⟨(.v (.bool (inR m))), []⟩) := by
 refine Ctr.of (rs := [.tmp 2]) Tok true Tryz.func100 rfl rfl rfl rfl (by simp [ofDL]) (fun w0 kp => ?_)
 simp only [↓sx0, xE, sevalprocAttr]
 refine CallI.fn (within_s m.part 0 59) (by simp only [sx3, xR, sevalprocAttr] <;> (try simp) <;> (try rfl)) ?_
 simp only [↓sx0, xE, sevalprocAttr]
 refine BrW.of (fun h => ?_) (fun h => ?_)
 ·simp only [↓sx0, xE, sevalprocAttr]
  refine CallI.fn (within_s m.word 0 100) (by simp only [sx3, xR, sevalprocAttr] <;> (try simp) <;> (try rfl)) ?_
  simp only [↓sx0, xE, sevalprocAttr]
  have : inR m = decide (0 ≤ m.word ∧ m.word ≤ 100) := by rw [inR, h, Bool.true_and]
  refine EndW.fn ?_ ?_ <;> simp only [sx4, xK, sevalprocAttr] <;> (try simp [this]) <;> (try omega)
 ·simp only [↓sx0, xE, sevalprocAttr]
  have : inR m = false := by rw [inR, h, Bool.false_and]
  refine EndW.fn ?_ ?_ <;> simp only [sx4, xK, sevalprocAttr] <;> (try simp [this]) <;> (try omega)
def ptsB (m : Mk) : Bool := decide (m.mark = 5) || decide (m.mark = 6)
theorem parts_s (m : Mk) : Ctr Tryz.prog 103 [mV m] (fun rr => rr = ⟨(.v (.bool (ptsB m))), []⟩) := by
 refine Ctr.of (rs := [.tmp 2]) Tok true Tryz.func103 rfl rfl rfl rfl (by simp [ofDL]) (fun w0 kp => ?_)
 simp only [↓sx0, xE, sevalprocAttr]
 refine BrW.dec (fun h => ?_) (fun h => ?_)
 ·simp only [↓sx0, xE, sevalprocAttr]
  have : ptsB m = true := by simp [ptsB, h]
  refine EndW.fn ?_ ?_ <;> simp only [sx4, xK, sevalprocAttr] <;> (try simp [this]) <;> (try omega)
 ·simp only [↓sx0, xE, sevalprocAttr]
  have : ptsB m = decide (m.mark = 6) := by simp [ptsB, h]
  refine EndW.fn ?_ ?_ <;> simp only [sx4, xK, sevalprocAttr] <;> (try simp [this]) <;> (try omega)
theorem toldBy_s (m : Mk) : Ctr Tryz.prog 101 [mV m] (fun rr => rr = ⟨.agg [(.v (.string (m.old))), (.v (.string (m.new))), (.v (.int .i64 m.was)), (.v (.int .i64 m.kind))], []⟩) := by
 refine Ctr.of (rs := [.cell 2 179]) Tok true Tryz.func101 rfl rfl rfl rfl (by simp [ofDL]) (fun w0 kp => ?_)
 simp only [↓sx0, xE, sevalprocAttr]
 refine EndW.fn ?_ ?_ <;> simp only [sx4, xK, sevalprocAttr] <;> (try simp) <;> (try omega)
def em : ByteArray := ⟨#[]⟩
def wantB (mark : Int) (o n : ByteArray) (w k : Int) : Bool :=
 if mark = 1 then isWd o && decide (n = em ∧ w = 0 ∧ k = 0)
 else if mark = 2 then isWd n && decide (o = em ∧ w = 0 ∧ k = 0)
 else if mark = 3 then (isWd o && isWd n && decide (o ≠ n)) && decide (w = 0 ∧ k = 0)
 else if mark = 5 ∨ mark = 6 then decide (1 ≤ k ∧ k ≤ 3) && decide (o = em ∧ n = em ∧ w = 0)
 else if mark = 7 then (decide (1 ≤ w ∧ w ≤ 3) && decide (1 ≤ k ∧ k ≤ 3) && decide (w ≠ k)) && decide (o = em ∧ n = em)
 else decide (o = em ∧ n = em ∧ w = 0 ∧ k = 0)
set_option maxHeartbeats 4000000 in
theorem fits_s (mark : Int) (o n : ByteArray) (w k : Int) (ho : o.size ≤ 1000000000) (hn : n.size ≤ 1000000000) : Ctr Tryz.prog 102 [.agg [(.v (.string (o))), (.v (.string (n))), (.v (.int .i64 w)), (.v (.int .i64 k))], (.v (.int .i64 mark))] (fun rr => rr = ⟨(.v (.bool (wantB mark o n w k))), []⟩) := by
 refine Ctr.of (rs := [.tmp 4]) Tok true Tryz.func102 rfl rfl rfl rfl (by simp [ofDL]) (fun w0 kp => ?_)
 simp only [↓sx0, xE, sevalprocAttr]
 refine BrW.dec (fun h1 => ?_) (fun h1 => ?_)
 ·have hw : wantB mark o n w k = (isWd o && decide (n = em ∧ w = 0 ∧ k = 0)) := by rw [wantB, if_pos h1]
  rw [hw]
  simp only [↓sx0, xE, sevalprocAttr]
  refine DrawW.plan Tok mixed (.q 0 <| .q 1 <| .q 2 <| .q 3 <| .q 5 <| .e 4 [1] <| .e 6 [] <| .q 7 <| .done) (by kernel_rfl) (by kernel_rfl) ?_
  simp only [↓sx0, xE, sevalprocAttr]
  refine CallI.fn (isWord_s o ho) (by simp only [sx3, xR, sevalprocAttr] <;> (try simp) <;> (try rfl)) ?_
  simp only [↓sx0, xE, sevalprocAttr]
  refine BrW.of (fun hb => ?_) (fun hb => ?_)
  ·simp only [↓sx0, xE, sevalprocAttr]
   rw [show (isWd o && decide (n = em ∧ w = 0 ∧ k = 0)) = decide ([Sc.s o, Sc.s n, Sc.i w, Sc.i k] = [Sc.s o, Sc.s ⟨#[]⟩, Sc.i 0, Sc.i 0]) by rw [hb, Bool.eq_iff_iff]; simp [em]; exact decide_eq_true_iff]
   refine EndW.fn ?_ ?_ <;> simp only [sx4, xK, sevalprocAttr] <;> (try simp) <;> (try omega)
  ·simp only [↓sx0, xE, sevalprocAttr]
   rw [hb]
   refine EndW.fn ?_ ?_ <;> simp only [sx4, xK, sevalprocAttr] <;> (try simp) <;> (try omega)
 ·simp only [↓sx0, xE, sevalprocAttr]
  refine BrW.dec (fun h2 => ?_) (fun h2 => ?_)
  ·have hw : wantB mark o n w k = (isWd n && decide (o = em ∧ w = 0 ∧ k = 0)) := by rw [wantB, if_neg h1, if_pos h2]
   rw [hw]
   simp only [↓sx0, xE, sevalprocAttr]
   refine DrawW.plan Tok mixed (.q 0 <| .q 1 <| .q 2 <| .q 3 <| .q 5 <| .e 4 [1] <| .e 6 [] <| .q 7 <| .done) (by kernel_rfl) (by kernel_rfl) ?_
   simp only [↓sx0, xE, sevalprocAttr]
   refine CallI.fn (isWord_s n hn) (by simp only [sx3, xR, sevalprocAttr] <;> (try simp) <;> (try rfl)) ?_
   simp only [↓sx0, xE, sevalprocAttr]
   refine BrW.of (fun hb => ?_) (fun hb => ?_)
   ·simp only [↓sx0, xE, sevalprocAttr]
    rw [show (isWd n && decide (o = em ∧ w = 0 ∧ k = 0)) = decide ([Sc.s o, Sc.s n, Sc.i w, Sc.i k] = [Sc.s ⟨#[]⟩, Sc.s n, Sc.i 0, Sc.i 0]) by rw [hb, Bool.eq_iff_iff]; simp [em]; exact decide_eq_true_iff]
    refine EndW.fn ?_ ?_ <;> simp only [sx4, xK, sevalprocAttr] <;> (try simp) <;> (try omega)
   ·simp only [↓sx0, xE, sevalprocAttr]
    rw [hb]
    refine EndW.fn ?_ ?_ <;> simp only [sx4, xK, sevalprocAttr] <;> (try simp) <;> (try omega)
  ·simp only [↓sx0, xE, sevalprocAttr]
   refine BrW.dec (fun h3 => ?_) (fun h3 => ?_)
   ·have hw : wantB mark o n w k = ((isWd o && isWd n && decide (o ≠ n)) && decide (w = 0 ∧ k = 0)) := by rw [wantB, if_neg h1, if_neg h2, if_pos h3]
    rw [hw]
    simp only [↓sx0, xE, sevalprocAttr]
    refine DrawW.plan Tok mixed (.q 0 <| .q 1 <| .q 2 <| .q 3 <| .q 4 <| .q 5 <| .q 19 <| .e 6 [1, 3] <| .q 7 <| .q 8 <| .q 9 <| .e 10 [1, 3] <| .q 11 <| .q 12 <| .q 13 <| .q 14 <| .q 15 <| .q 16 <| .q 17 <| .q 18 <| .e 20 [3, 14, 16] <| .q 21 <| .e 22 [14, 16] <| .q 23 <| .done) (by kernel_rfl) (by kernel_rfl) ?_
    simp only [↓sx0, xE, sevalprocAttr]
    refine CallI.fn (isWord_s o ho) (by simp only [sx3, xR, sevalprocAttr] <;> (try simp) <;> (try rfl)) ?_
    simp only [↓sx0, xE, sevalprocAttr]
    refine BrW.of (fun hb => ?_) (fun hb => ?_)
    ·simp only [↓sx0, xE, sevalprocAttr]
     repeat ((with_reducible refine BrW.tt hb ?_); simp only [↓sx0, xE, sevalprocAttr])
     refine CallI.fn (isWord_s n hn) (by simp only [sx3, xR, sevalprocAttr] <;> (try simp) <;> (try rfl)) ?_
     simp only [↓sx0, xE, sevalprocAttr]
     refine BrW.of (fun hc => ?_) (fun hc => ?_)
     ·simp only [↓sx0, xE, sevalprocAttr]
      repeat ((with_reducible refine BrW.tt hc ?_); simp only [↓sx0, xE, sevalprocAttr])
      refine BrW.dec (fun hd => ?_) (fun hd => ?_)
      ·simp only [↓sx0, xE, sevalprocAttr]
       rw [show ((isWd o && isWd n && decide (o ≠ n)) && decide (w = 0 ∧ k = 0)) = decide ([Sc.s o, Sc.s n, Sc.i w, Sc.i k] = [Sc.s o, Sc.s n, Sc.i 0, Sc.i 0]) by rw [hb, hc, decide_eq_true hd]; simp]
       refine EndW.fn ?_ ?_ <;> simp only [sx4, xK, sevalprocAttr] <;> (try simp) <;> (try omega)
      ·simp only [↓sx0, xE, sevalprocAttr]
       rw [hb, hc, decide_eq_false hd]
       refine EndW.fn ?_ ?_ <;> simp only [sx4, xK, sevalprocAttr] <;> (try simp) <;> (try omega)
     ·simp only [↓sx0, xE, sevalprocAttr]
      repeat ((with_reducible refine BrW.ff hc ?_); simp only [↓sx0, xE, sevalprocAttr])
      rw [hb, hc]
      refine EndW.fn ?_ ?_ <;> simp only [sx4, xK, sevalprocAttr] <;> (try simp) <;> (try omega)
    ·simp only [↓sx0, xE, sevalprocAttr]
     repeat ((with_reducible refine BrW.ff hb ?_); simp only [↓sx0, xE, sevalprocAttr])
     rw [hb]
     refine EndW.fn ?_ ?_ <;> simp only [sx4, xK, sevalprocAttr] <;> (try simp) <;> (try omega)
   ·simp only [↓sx0, xE, sevalprocAttr]
    have bj : mark = 5 ∨ mark = 6 → wantB mark o n w k = (decide (1 ≤ k ∧ k ≤ 3) && decide (o = em ∧ n = em ∧ w = 0)) := fun h => by rw [wantB, if_neg h1, if_neg h2, if_neg h3, if_pos h]
    refine BrW.dec (fun h5 => ?_) (fun h5 => ?_)
    ·rw [bj (.inl h5)]
     simp only [↓sx0, xE, sevalprocAttr]
     refine BrW.yes h5 ?_
     simp only [↓sx0, xE, sevalprocAttr]
     refine DrawW.plan Tok mixed (.q 0 <| .q 1 <| .q 2 <| .q 3 <| .q 5 <| .e 4 [1] <| .e 6 [] <| .q 7 <| .done) (by kernel_rfl) (by kernel_rfl) ?_
     simp only [↓sx0, xE, sevalprocAttr]
     refine CallI.fn (isKind_s k) (by simp only [sx3, xR, sevalprocAttr] <;> (try simp) <;> (try rfl)) ?_
     simp only [↓sx0, xE, sevalprocAttr]
     refine BrW.of (fun hb => ?_) (fun hb => ?_)
     ·simp only [↓sx0, xE, sevalprocAttr]
      rw [show (decide (1 ≤ k ∧ k ≤ 3) && decide (o = em ∧ n = em ∧ w = 0)) = decide ([Sc.s o, Sc.s n, Sc.i w, Sc.i k] = [Sc.s ⟨#[]⟩, Sc.s ⟨#[]⟩, Sc.i 0, Sc.i k]) by rw [hb, Bool.eq_iff_iff]; simp [em]; exact decide_eq_true_iff]
      refine EndW.fn ?_ ?_ <;> simp only [sx4, xK, sevalprocAttr] <;> (try simp) <;> (try omega)
     ·simp only [↓sx0, xE, sevalprocAttr]
      rw [hb]
      refine EndW.fn ?_ ?_ <;> simp only [sx4, xK, sevalprocAttr] <;> (try simp) <;> (try omega)
    ·simp only [↓sx0, xE, sevalprocAttr]
     refine BrW.dec (fun h6 => ?_) (fun h6 => ?_)
     ·rw [bj (.inr h6)]
      simp only [↓sx0, xE, sevalprocAttr]
      refine DrawW.plan Tok mixed (.q 0 <| .q 1 <| .q 2 <| .q 3 <| .q 5 <| .e 4 [1] <| .e 6 [] <| .q 7 <| .done) (by kernel_rfl) (by kernel_rfl) ?_
      simp only [↓sx0, xE, sevalprocAttr]
      refine CallI.fn (isKind_s k) (by simp only [sx3, xR, sevalprocAttr] <;> (try simp) <;> (try rfl)) ?_
      simp only [↓sx0, xE, sevalprocAttr]
      refine BrW.of (fun hb => ?_) (fun hb => ?_)
      ·simp only [↓sx0, xE, sevalprocAttr]
       rw [show (decide (1 ≤ k ∧ k ≤ 3) && decide (o = em ∧ n = em ∧ w = 0)) = decide ([Sc.s o, Sc.s n, Sc.i w, Sc.i k] = [Sc.s ⟨#[]⟩, Sc.s ⟨#[]⟩, Sc.i 0, Sc.i k]) by rw [hb, Bool.eq_iff_iff]; simp [em]; exact decide_eq_true_iff]
       refine EndW.fn ?_ ?_ <;> simp only [sx4, xK, sevalprocAttr] <;> (try simp) <;> (try omega)
      ·simp only [↓sx0, xE, sevalprocAttr]
       rw [hb]
       refine EndW.fn ?_ ?_ <;> simp only [sx4, xK, sevalprocAttr] <;> (try simp) <;> (try omega)
     ·simp only [↓sx0, xE, sevalprocAttr]
      have h56 : ¬ (mark = 5 ∨ mark = 6) := fun h => h.elim h5 h6
      refine BrW.dec (fun h7 => ?_) (fun h7 => ?_)
      ·have hw : wantB mark o n w k = ((decide (1 ≤ w ∧ w ≤ 3) && decide (1 ≤ k ∧ k ≤ 3) && decide (w ≠ k)) && decide (o = em ∧ n = em)) := by rw [wantB, if_neg h1, if_neg h2, if_neg h3, if_neg h56, if_pos h7]
       rw [hw]
       simp only [↓sx0, xE, sevalprocAttr]
       refine DrawW.plan Tok mixed (.q 0 <| .q 1 <| .q 2 <| .q 3 <| .q 4 <| .q 5 <| .q 19 <| .e 6 [1, 3] <| .q 7 <| .q 8 <| .q 9 <| .e 10 [1, 3] <| .q 11 <| .q 12 <| .q 13 <| .q 14 <| .q 15 <| .q 16 <| .q 17 <| .q 18 <| .e 20 [3, 14, 16] <| .q 21 <| .e 22 [14, 16] <| .q 23 <| .done) (by kernel_rfl) (by kernel_rfl) ?_
       simp only [↓sx0, xE, sevalprocAttr]
       refine CallI.fn (isKind_s w) (by simp only [sx3, xR, sevalprocAttr] <;> (try simp) <;> (try rfl)) ?_
       simp only [↓sx0, xE, sevalprocAttr]
       refine BrW.of (fun hb => ?_) (fun hb => ?_)
       ·simp only [↓sx0, xE, sevalprocAttr]
        repeat ((with_reducible refine BrW.tt hb ?_); simp only [↓sx0, xE, sevalprocAttr])
        refine CallI.fn (isKind_s k) (by simp only [sx3, xR, sevalprocAttr] <;> (try simp) <;> (try rfl)) ?_
        simp only [↓sx0, xE, sevalprocAttr]
        refine BrW.of (fun hc => ?_) (fun hc => ?_)
        ·simp only [↓sx0, xE, sevalprocAttr]
         repeat ((with_reducible refine BrW.tt hc ?_); simp only [↓sx0, xE, sevalprocAttr])
         refine BrW.dec (fun hd => ?_) (fun hd => ?_)
         ·simp only [↓sx0, xE, sevalprocAttr]
          rw [show ((decide (1 ≤ w ∧ w ≤ 3) && decide (1 ≤ k ∧ k ≤ 3) && decide (w ≠ k)) && decide (o = em ∧ n = em)) = decide ([Sc.s o, Sc.s n, Sc.i w, Sc.i k] = [Sc.s ⟨#[]⟩, Sc.s ⟨#[]⟩, Sc.i w, Sc.i k]) by rw [hb, hc, decide_eq_true hd, Bool.eq_iff_iff]; simp [em]; exact decide_eq_true_iff]
          refine EndW.fn ?_ ?_ <;> simp only [sx4, xK, sevalprocAttr] <;> (try simp) <;> (try omega)
         ·simp only [↓sx0, xE, sevalprocAttr]
          rw [hb, hc, decide_eq_false hd]
          refine EndW.fn ?_ ?_ <;> simp only [sx4, xK, sevalprocAttr] <;> (try simp) <;> (try omega)
        ·simp only [↓sx0, xE, sevalprocAttr]
         repeat ((with_reducible refine BrW.ff hc ?_); simp only [↓sx0, xE, sevalprocAttr])
         rw [hb, hc]
         refine EndW.fn ?_ ?_ <;> simp only [sx4, xK, sevalprocAttr] <;> (try simp) <;> (try omega)
       ·simp only [↓sx0, xE, sevalprocAttr]
        repeat ((with_reducible refine BrW.ff hb ?_); simp only [↓sx0, xE, sevalprocAttr])
        rw [hb]
        refine EndW.fn ?_ ?_ <;> simp only [sx4, xK, sevalprocAttr] <;> (try simp) <;> (try omega)
      ·have hw : wantB mark o n w k = decide ([Sc.s o, Sc.s n, Sc.i w, Sc.i k] = [Sc.s ⟨#[]⟩, Sc.s ⟨#[]⟩, Sc.i 0, Sc.i 0]) := by
        rw [wantB, if_neg h1, if_neg h2, if_neg h3, if_neg h56, if_neg h7, Bool.eq_iff_iff]; simp [em]; exact decide_eq_true_iff
       rw [hw]
       simp only [↓sx0, xE, sevalprocAttr]
       refine EndW.fn ?_ ?_ <;> simp only [sx4, xK, sevalprocAttr] <;> (try simp) <;> (try omega)
/-- the error of a mark. -/
def mkErr (m : Mk) : Int :=
 if 1 ≤ m.mark ∧ m.mark ≤ 7 then (if inR m = true then (if wantB m.mark m.old m.new m.was m.kind = true ∧ ¬ (ptsB m = true ∧ m.word = 0) ∧ ¬ (m.mark = 7 ∧ m.word ≠ 0) then 0 else 3) else 2) else 15
def MkSz (m : Mk) : Prop := m.old.size ≤ 1000000000 ∧ m.new.size ≤ 1000000000
set_option maxHeartbeats 4000000 in
theorem checkMark_s (m : Mk) (hz : MkSz m) : Ctr Tryz.prog 66 [mV m] (fun rr => rr = ⟨(.v (.int .i64 (mkErr m))), []⟩) := by
 refine Ctr.of (rs := [.tmp 2]) Tok true Tryz.func66 rfl rfl rfl rfl (by simp [ofDL]) (fun w0 kp => ?_)
 simp only [↓sx0, xE, sevalprocAttr]
 refine CallI.fn (within_s m.mark 1 7) (by simp only [sx3, xR, sevalprocAttr] <;> (try simp) <;> (try rfl)) ?_
 simp only [↓sx0, xE, sevalprocAttr]
 refine BrW.of (fun hk => ?_) (fun hk => ?_)
 ·have hk : 1 ≤ m.mark ∧ m.mark ≤ 7 := by simpa using hk
  simp only [↓sx0, xE, sevalprocAttr]
  refine CallI.fn (inRange_s m) (by simp only [sx3, xR, sevalprocAttr] <;> (try simp) <;> (try rfl)) ?_
  simp only [↓sx0, xE, sevalprocAttr]
  refine BrW.of (fun hr => ?_) (fun hr => ?_)
  ·have he : mkErr m = if wantB m.mark m.old m.new m.was m.kind = true ∧ ¬ (ptsB m = true ∧ m.word = 0) ∧ ¬ (m.mark = 7 ∧ m.word ≠ 0) then 0 else 3 := by rw [mkErr, if_pos hk, if_pos hr]
   rw [he]
   simp only [↓sx0, xE, sevalprocAttr]
   refine DrawW.plan Tok mixed (.q 0 <| .q 2 <| .q 3 <| .e 1 [3] <| .e 4 [] <| .q 5 <| .q 6 <| .q 7 <| .e 8 [] <| .q 9 <| .q 10 <| .q 11 <| .q 12 <| .q 13 <| .q 14 <| .q 15 <| .q 16 <| .q 17 <| .q 18 <| .q 19 <| .q 20 <| .q 21 <| .q 22 <| .q 23 <| .q 24 <| .q 25 <| .done) (by kernel_rfl) (by kernel_rfl) ?_
   simp only [↓sx0, xE, sevalprocAttr]
   refine CallI.fn (toldBy_s m) (by simp only [sx3, xR, sevalprocAttr] <;> (try simp) <;> (try rfl)) ?_
   simp only [↓sx0, xE, sevalprocAttr]
   refine CallI.fn (fits_s m.mark m.old m.new m.was m.kind hz.1 hz.2) (by simp only [sx3, xR, sevalprocAttr] <;> (try simp) <;> (try rfl)) ?_
   simp only [↓sx0, xE, sevalprocAttr]
   refine BrW.of (fun hf => ?_) (fun hf => ?_)
   ·simp only [↓sx0, xE, sevalprocAttr]
    repeat ((with_reducible refine BrW.tt hf ?_); simp only [↓sx0, xE, sevalprocAttr])
    refine CallI.fn (parts_s m) (by simp only [sx3, xR, sevalprocAttr] <;> (try simp) <;> (try rfl)) ?_
    simp only [↓sx0, xE, sevalprocAttr]
    refine BrW.of (fun hp => ?_) (fun hp => ?_)
    ·simp only [↓sx0, xE, sevalprocAttr]
     have h7 : ¬ m.mark = 7 := fun h => by rw [ptsB, h] at hp; simp at hp
     repeat ((with_reducible refine BrW.tt hp ?_); simp only [↓sx0, xE, sevalprocAttr])
     refine BrW.dec (fun hw0 => ?_) (fun hw0 => ?_)
     ·simp only [↓sx0, xE, sevalprocAttr]
      repeat ((with_reducible refine BrW.yes hw0 ?_); simp only [↓sx0, xE, sevalprocAttr])
      rw [if_neg fun h => h.2.1 ⟨hp, hw0⟩]
      refine EndW.fn ?_ ?_ <;> simp only [sx4, xK, sevalprocAttr] <;> (try simp) <;> (try omega)
     ·simp only [↓sx0, xE, sevalprocAttr]
      repeat ((with_reducible refine BrW.no hw0 ?_); simp only [↓sx0, xE, sevalprocAttr])
      repeat ((with_reducible refine BrW.no h7 ?_); simp only [↓sx0, xE, sevalprocAttr])
      rw [if_pos ⟨hf, fun h => hw0 h.2, fun h => h7 h.1⟩]
      refine EndW.fn ?_ ?_ <;> simp only [sx4, xK, sevalprocAttr] <;> (try simp) <;> (try omega)
    ·simp only [↓sx0, xE, sevalprocAttr]
     repeat ((with_reducible refine BrW.ff hp ?_); simp only [↓sx0, xE, sevalprocAttr])
     refine BrW.dec (fun h7 => ?_) (fun h7 => ?_)
     ·simp only [↓sx0, xE, sevalprocAttr]
      repeat ((with_reducible refine BrW.yes h7 ?_); simp only [↓sx0, xE, sevalprocAttr])
      refine BrW.dec (fun hw0 => ?_) (fun hw0 => ?_)
      ·simp only [↓sx0, xE, sevalprocAttr]
       rw [if_neg fun h => h.2.2 ⟨h7, hw0⟩]
       refine EndW.fn ?_ ?_ <;> simp only [sx4, xK, sevalprocAttr] <;> (try simp) <;> (try omega)
      ·simp only [↓sx0, xE, sevalprocAttr]
       rw [if_pos ⟨hf, fun h => by rw [hp] at h; simp at h, fun h => hw0 h.2⟩]
       refine EndW.fn ?_ ?_ <;> simp only [sx4, xK, sevalprocAttr] <;> (try simp) <;> (try omega)
     ·simp only [↓sx0, xE, sevalprocAttr]
      repeat ((with_reducible refine BrW.no h7 ?_); simp only [↓sx0, xE, sevalprocAttr])
      rw [if_pos ⟨hf, fun h => by rw [hp] at h; simp at h, fun h => h7 h.1⟩]
      refine EndW.fn ?_ ?_ <;> simp only [sx4, xK, sevalprocAttr] <;> (try simp) <;> (try omega)
   ·simp only [↓sx0, xE, sevalprocAttr]
    repeat ((with_reducible refine BrW.ff hf ?_); simp only [↓sx0, xE, sevalprocAttr])
    rw [if_neg (by rw [hf]; simp)]
    refine EndW.fn ?_ ?_ <;> simp only [sx4, xK, sevalprocAttr] <;> (try simp) <;> (try omega)
  ·simp only [↓sx0, xE, sevalprocAttr]
   rw [show mkErr m = 2 by rw [mkErr, if_pos hk, if_neg (by simp [hr])]]
   refine EndW.fn ?_ ?_ <;> simp only [sx4, xK, sevalprocAttr] <;> (try simp) <;> (try omega)
 ·have hk : ¬ (1 ≤ m.mark ∧ m.mark ≤ 7) := by simpa using hk
  simp only [↓sx0, xE, sevalprocAttr]
  rw [show mkErr m = 15 by rw [mkErr, if_neg hk]]
  refine EndW.fn ?_ ?_ <;> simp only [sx4, xK, sevalprocAttr] <;> (try simp) <;> (try omega)
end Go.Proofs.YtgcmppghjfidfaaGreatDoor
/-
 Chapter 8, walks: a word that comes in.
-/
namespace Go.Proofs.YtgcmppghjfidfaaGreatDoor
open Go Go.Vx
set_option maxRecDepth 20000
def insP (p : Pt) (k : Nat) (t : ByteArray) : Pt := ⟨p.kind, p.words.take k ++ t :: p.words.drop k⟩
theorem elsA_get {l : List Pt} {i : Nat} (hi : i < l.length) (u : Value) : (elsA l i u)[i]? = some [.v (.int .i64 l[i].kind), .v u] := by
 unfold elsA
 have hgd : l.getD i ⟨0, []⟩ = l[i] := by simp [List.getD_eq_getElem?_getD, hi]
 rw [hgd, List.getElem?_set_self (by simpa using hi)]
theorem elsA_put {l : List Pt} {i : Nat} (hi : i < l.length) (u : Value) (p : Pt) (hk : p.kind = l[i].kind) : ((elsA l i u).modify i fun x => modE x 1 [.sl true 1 (p.words.map eS)]) = (l.set i p).map (eP true) := by
 apply List.ext_getElem?
 intro k
 rw [List.getElem?_modify]
 by_cases h : i = k
 ·subst h
  rw [elsA_get hi]
  simp [modE, eP, hk, hi]
 ·unfold elsA
  simp [h]
theorem elsA_len (l : List Pt) (i : Nat) (u : Value) : (elsA l i u).length = l.length := by simp [elsA]
theorem mapE : (∀ k v, upE k v [] = [[.v k, .v v]]) ∧ (∀ key val k v l, upE key val ([.v k, .v v] :: l) = if kEq key k = true then [.v key, .v val] :: l else [.v k, .v v] :: upE key val l) ∧ (∀ a b, kEq (.int .i64 a) (.int .i64 b) = decide (a = b)) ∧ (entsOk (some .i64) [] = true) ∧
  (∀ k v l, entsOk (some .i64) ([.v (.int .i64 k), .v v] :: l) = entsOk (some .i64) l) ∧ (∀ key, lkE key [] = none) ∧ (∀ key k v l, lkE key ([.v k, .v v] :: l) = if kEq key k = true then some v else lkE key l) ∧ (∀ z v, lkV false z (some v) = .v v) ∧ (∀ z, lkV false z none = .v z) ∧ (∀ v z : Value, (some v).getD z = v) ∧ (∀ z : Value, (none : Option Value).getD z = z) := by
 refine ⟨fun _ _ => rfl, fun _ _ _ _ _ => rfl, fun a b => ?_, rfl, fun k v l => ?_, fun _ => rfl, fun _ _ _ _ => rfl, fun _ _ => rfl, fun _ => rfl, fun _ _ => rfl, fun _ => rfl⟩
 ·rw [Bool.eq_iff_iff]; simp [kEq]
 ·simp [entsOk, entOk, keyIs]
end Go.Proofs.YtgcmppghjfidfaaGreatDoor
/-
 Chapter 8, walks: what a mark moves.
-/
namespace Go.Proofs.YtgcmppghjfidfaaGreatDoor
open Go Go.Vx
set_option maxRecDepth 20000
def lenM (m : Mk) : Int := if m.mark = 1 then -1 else if m.mark = 2 then 1 else 0
def shM (m : Mk) : Int := if m.mark = 5 then 1 else if m.mark = 6 then -1 else 0
def ahM (m : Mk) : Int := if m.mark = 1 then 1 else if m.mark = 3 then 1 else if m.mark = 4 then 2 else 0
def owB (m : Mk) : Bool := decide (1 ≤ m.mark ∧ m.mark ≤ 4)
def p0B (m : Mk) : Bool := ptsB m && decide (m.word = 0)
end Go.Proofs.YtgcmppghjfidfaaGreatDoor
/-
 Chapter 8, walks: two marks in the other order, where none breaks or joins.
-/
namespace Go.Proofs.YtgcmppghjfidfaaGreatDoor
open Go Go.Vx
set_option maxRecDepth 20000
def wordsP (a b : Mk) : Option (Mk × Mk) :=
 if b.word + ahM b ≤ a.word then some ({ a with word := a.word + lenM b }, b)
 else if a.word + ahM a + lenM a ≤ b.word then some (a, { b with word := b.word - lenM a }) else none
def quietP (a b : Mk) : Option (Mk × Mk) :=
 if a.part ≠ b.part then some (a, b) else if owB a = true ∧ owB b = true then wordsP a b else if owB a = true ∨ owB b = true then some (a, b) else none
def mk0 : Mk := ⟨0, 0, 0, ⟨#[]⟩, ⟨#[]⟩, 0, 0⟩
/-- both in the other order, with the error. -/
def swapF (r : Option (Mk × Mk)) : (Mk × Mk) × Int :=
 match r with
 | none => ((mk0, mk0), 13)
 | some (a, b) => if inR a = true ∧ inR b = true then (if p0B b = true ∨ p0B a = true then ((mk0, mk0), 3) else ((b, a), 0)) else ((mk0, mk0), 2)
def prSV (p : Mk × Mk) : SV := .agg [.v (.int .i64 p.1.mark), .v (.int .i64 p.1.part), .v (.int .i64 p.1.word), .v (.string p.1.old), .v (.string p.1.new), .v (.int .i64 p.1.was), .v (.int .i64 p.1.kind), .v (.int .i64 p.2.mark), .v (.int .i64 p.2.part), .v (.int .i64 p.2.word), .v (.string p.2.old), .v (.string p.2.new), .v (.int .i64 p.2.was), .v (.int .i64 p.2.kind)]
theorem prE : (∀ p, prSV p = .agg [.v (.int .i64 p.1.mark), .v (.int .i64 p.1.part), .v (.int .i64 p.1.word), .v (.string p.1.old), .v (.string p.1.new), .v (.int .i64 p.1.was), .v (.int .i64 p.1.kind), .v (.int .i64 p.2.mark), .v (.int .i64 p.2.part), .v (.int .i64 p.2.word), .v (.string p.2.old), .v (.string p.2.new), .v (.int .i64 p.2.was), .v (.int .i64 p.2.kind)]) ∧ mk0 = ⟨0, 0, 0, ⟨#[]⟩, ⟨#[]⟩, 0, 0⟩ := ⟨fun _ => rfl, rfl⟩
end Go.Proofs.YtgcmppghjfidfaaGreatDoor
/-
 Chapter 8, walks: two marks in the other order, the first one breaks.
-/
namespace Go.Proofs.YtgcmppghjfidfaaGreatDoor
open Go Go.Vx
set_option maxRecDepth 20000
def befP (a b : Mk) : Option (Mk × Mk) :=
 if b.mark = 6 then (if b.part = a.part - 1 then none else some ({ a with part := a.part + shM b }, b)) else some ({ a with part := a.part + shM b }, b)
def brokenP (a b : Mk) : Option (Mk × Mk) :=
 if b.part < a.part then befP a b else if a.part + 1 < b.part then some (a, { b with part := b.part - 1 }) else if ptsB b = true then none
 else if b.part = a.part then (if owB b = true then some ({ a with word := a.word + lenM b }, b) else some (a, b)) else if owB b = true then some (a, { b with part := b.part - 1, word := b.word + a.word }) else none
def joinedP (a b : Mk) : Option (Mk × Mk) :=
 if b.part < a.part then befP a b else if a.part < b.part then some (a, { b with part := b.part + 1 }) else if ptsB b = true then none
 else if owB b = true then (if b.word + ahM b ≤ a.word then some ({ a with word := a.word + lenM b }, b) else if a.word ≤ b.word then some (a, { b with part := b.part + 1, word := b.word - a.word }) else none) else some (a, b)
def breaksP (a b : Mk) : Option (Mk × Mk) :=
 if a.part < b.part then some (a, b) else if b.part < a.part then some ({ a with part := a.part + 1 }, b)
 else if owB a = true then (if b.word ≤ a.word then some ({ a with part := a.part + 1, word := a.word - b.word }, b) else if a.word + ahM a + lenM a ≤ b.word then some (a, { b with word := b.word - lenM a }) else none) else some (a, b)
def joinsP (a b : Mk) : Option (Mk × Mk) :=
 if a.part < b.part then some (a, b) else if b.part + 1 < a.part then some ({ a with part := a.part - 1 }, b)
 else if a.part = b.part then (if owB a = true then some (a, { b with word := b.word - lenM a }) else some (a, b)) else if owB a = true then some ({ a with part := a.part - 1, word := a.word + b.word }, b) else none
end Go.Proofs.YtgcmppghjfidfaaGreatDoor
/-
 Chapter 8, walks: two marks in the other order, the first one joins.
-/
namespace Go.Proofs.YtgcmppghjfidfaaGreatDoor
open Go Go.Vx
set_option maxRecDepth 20000
end Go.Proofs.YtgcmppghjfidfaaGreatDoor
/-
 Chapter 8, walks: two marks in the other order, the second one breaks.
-/
namespace Go.Proofs.YtgcmppghjfidfaaGreatDoor
open Go Go.Vx
set_option maxRecDepth 20000
end Go.Proofs.YtgcmppghjfidfaaGreatDoor
/-
 Chapter 8, walks: two marks in the other order, the second one joins.
-/
namespace Go.Proofs.YtgcmppghjfidfaaGreatDoor
open Go Go.Vx
set_option maxRecDepth 20000
end Go.Proofs.YtgcmppghjfidfaaGreatDoor
/-
 Chapter 8, walks: two marks in the other order (reference).
-/
namespace Go.Proofs.YtgcmppghjfidfaaGreatDoor
open Go Go.Vx
set_option maxRecDepth 20000
def orR (r : Option (Mk × Mk)) (a b : Mk) : SV := match r with
 | some (x, y) => .tup [mV y, mV x, (.v (.bool (true)))]
 | none => .tup [mV b, mV a, (.v (.bool (false)))]
end Go.Proofs.YtgcmppghjfidfaaGreatDoor
/-
 Chapter 8, walks: two marks in the other order (reference), ahead of a break or a join.
-/
namespace Go.Proofs.YtgcmppghjfidfaaGreatDoor
open Go Go.Vx
set_option maxRecDepth 20000
end Go.Proofs.YtgcmppghjfidfaaGreatDoor
/-
 Chapter 8, walks: two marks in the other order, both sides.
-/
namespace Go.Proofs.YtgcmppghjfidfaaGreatDoor
open Go Go.Vx
set_option maxRecDepth 20000
def orderP (a b : Mk) : Option (Mk × Mk) :=
 if a.mark = 5 then brokenP a b else if a.mark = 6 then joinedP a b else if b.mark = 5 then breaksP a b else if b.mark = 6 then joinsP a b else quietP a b
/-- what a mark must have at its word. -/
def bdE (m : Mk) : Int := if (ptsB m = true ∧ m.word = 0) ∨ (m.mark = 7 ∧ m.word ≠ 0) then 3 else 0
end Go.Proofs.YtgcmppghjfidfaaGreatDoor
