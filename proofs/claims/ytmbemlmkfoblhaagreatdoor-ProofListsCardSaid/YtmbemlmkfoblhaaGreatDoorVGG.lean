/-
 Chapter 8: a mark read (the reference).
-/
import Derived.Test.YtmbemlmkfoblhaaGreatDoorVGD
import Derived.Test.YtmbemlmkfoblhaaGreatDoorVGE
import Derived.Test.YtmbemlmkfoblhaaGreatDoorVGF
import Derived.Test.YtmbemlmkfoblhaaGreatDoorVGB
set_option linter.unusedSimpArgs false
set_option linter.unusedVariables false
namespace Go.Proofs.YtmbemlmkfoblhaaGreatDoor
open Go Go.Vx
set_option maxRecDepth 20000
def nuR (w : List UInt8) : Int × Bool := numR w 7
/-- the mark that is found among the first k words. -/
def mI (W : List (List UInt8)) (k : Nat) : Int := if 1 ≤ kOf (wAt W 0) ∧ kOf (wAt W 0) < k then (kOf (wAt W 0) : Int) else 0
set_option maxHeartbeats 8000000 in
theorem parseMark_R (l : List UInt8) (hl : l.length ≤ 1000) : CtrK glob Tryz.prog 9 [(.v (.string (bs l)))] (fun rr => rr = ⟨.tup [mV (prsM nuR l).1, (.v (.int .i64 ((prsM nuR l).2)))], []⟩) := by
 have hsp := cut_R l 32 (by omega)
 have hnl := cut_R l 10 (by omega)
 have hWs : ∀ w ∈ cutL 32 [] l, w.length ≤ 1000 := fun w hw => by have := cutL_mem 32 l [] w hw; simp only [List.length_nil] at this; omega
 have hWl : (cutL 32 [] l).length ≤ 1001 := by rw [cutL_len]; have := List.count_le_length (a := (32 : UInt8)) (l := l); omega
 have hW1 : 0 < (cutL 32 [] l).length := by rw [cutL_len]; omega
 have hcn : (1 < (cutL 10 [] l).length) = ((10 : UInt8) ∈ l) := by
  rw [cutL_len]
  exact propext ⟨fun h => List.count_pos_iff.1 (by omega), fun h => by have := List.count_pos_iff.2 h; omega⟩
 have hpr : prsM nuR l = if (10 : UInt8) ∈ l then (mk00, 7) else
  if 1 ≤ kOf (wAt (cutL 32 [] l) 0) ∧ okK nuR (cutL 32 [] l) (kOf (wAt (cutL 32 [] l) 0)) = true then
   (if mkErr (mkK nuR (cutL 32 [] l) (kOf (wAt (cutL 32 [] l) 0))) = 0 then (mkK nuR (cutL 32 [] l) (kOf (wAt (cutL 32 [] l) 0)), 0) else (mk00, mkErr (mkK nuR (cutL 32 [] l) (kOf (wAt (cutL 32 [] l) 0)))))
  else (mk00, 7) := rfl
 generalize cutL 10 [] l = W2 at hnl hcn
 generalize cutL 32 [] l = W at hsp hpr hWs hWl hW1
 generalize prsM nuR l = R at hpr ⊢
 have hWg : ∀ i (h : i < W.length), wAt W i = W[i] := fun i h => by rw [wAt, List.getElem?_eq_getElem h]; rfl
 have hnm : (nmL.map fun s => D.v (.string s)) = [.v (.string (nmB 0)), .v (.string (nmB 1)), .v (.string (nmB 2)), .v (.string (nmB 3)), .v (.string (nmB 4)), .v (.string (nmB 5)), .v (.string (nmB 6)), .v (.string (nmB 7))] := rfl
 have encs := And.intro encs (And.intro eW_def (And.intro hnm gloE))
 refine CtrK.of (rs := [.cell 2 23, .tmp 3]) Tok true Tryz.func9 rfl rfl rfl rfl (by simp [ofDL]) (fun w0 kp hgl => ?_)
 simp only [↓sx0, sxE, encs, sevalprocAttr]
 obtain ⟨ty, fz, h0⟩ := hgl.2.2.2.2
 refine CallI.glo 0 nmL rfl h0 ?_
 refine CallI.fn (hnl) (by simp only [sx3, encs, sxR, sevalprocAttr] <;> (try simp) <;> (try rfl)) ?_
 simp only [↓sx0, sxE, encs, sevalprocAttr]
 by_cases hin : (10 : UInt8) ∈ l
 ·have h1 : 1 < W2.length := hcn.mpr hin
  rw [if_pos hin] at hpr
  subst hpr
  refine BrW.yes (by omega) ?_
  simp only [↓sx0, sxE, encs, sevalprocAttr]
  refine EndW.fn ?_ ?_ <;> simp only [sx4, encs, kpLL_map, sxR, sevalprocAttr] <;> (try simp [mk00, em]) <;> (try omega)
 have h1 : ¬ 1 < W2.length := fun h => hin (hcn.mp h)
 rw [if_neg hin] at hpr
 refine BrW.no (by omega) ?_
 simp only [↓sx0, sxE, encs, sevalprocAttr]
 refine CallI.fn (hsp) (by simp only [sx3, encs, sxR, sevalprocAttr] <;> (try simp) <;> (try rfl)) ?_
 simp only [↓sx0, sxE, encs, sevalprocAttr]
 have hz : mI W 1 = 0 := by simp [mI]
 refine LoopW.comp [2, 4, 5, 6, 7, 1000000, 2000000] (by simp only [sx2, encs, sxR, sevalprocAttr] <;> (try simp) <;> (try omega)) ?_
 simp only [sx2, sxR, sevalprocAttr]
 refine LoopW.up Tok (fun k : Nat => [(7, (.v (.int .i64 ((k : Int)))))]) (fun k => [(2, [(.v (.int .i64 (mI W k))), (.v (.int .i64 0)), (.v (.int .i64 0)), (.v (.string (em))), (.v (.string (em))), (.v (.int .i64 0)), (.v (.int .i64 0))])]) (fun k => []) (fun k => []) (fun k => 1 ≤ k ∧ k ≤ 8) (fun k => 8 - k) (1) (by simp only [sx2, encs, sxR, sevalprocAttr] <;> (try simp [hz, em, encs]) <;> (try omega)) ?_ ?_
 ·omega
 rintro k ⟨hk1, hk8⟩
 simp only [↓sx0, sxE, encs, sevalprocAttr]
 refine BrW.dec (fun hlt => ?_) (fun hlt => ?_)
 ·have hc : k = 1 ∨ k = 2 ∨ k = 3 ∨ k = 4 ∨ k = 5 ∨ k = 6 ∨ k = 7 := by omega
  rcases hc with rfl | rfl | rfl | rfl | rfl | rfl | rfl
  ·simp only [↓sx0, sxE, encs, sevalprocAttr]
   refine DrawW.plan Tok mixed (.q 0 <| .q 1 <| .q 2 <| .q 3 <| .q 4 <| .q 5 <| .q 6 <| .done) (by kernel_rfl) (by kernel_rfl) ?_
   simp only [↓sx0, sxE, encs, sevalprocAttr]
   refine ⟨by omega, eW W[0], (by rw [show (0 : Int).toNat = 0 from rfl, List.getElem?_map, List.getElem?_eq_getElem (by omega)]; rfl), ?_⟩
   simp only [↓sx0, sxE, encs, sevalprocAttr]
   repeat ((with_reducible refine Vc.go ?_ fun _ => ?_); (focus (first | omega | (simp only [InK]; omega) | (simp [InK] <;> omega))); simp only [↓sx0, sxE, encs, sevalprocAttr])
   by_cases hn0 : W[0] = (nmB 1).data.toList
   ·have hu : mI W 2 = 1 := by simp [mI, hWg 0 hW1, hn0, kOf_is (k := 1) (by omega)]
    refine BrW.yes (by rw [hn0, bs_data]) ?_
    simp only [↓sx0, sxE, encs, sevalprocAttr]
    repeat ((with_reducible refine Vc.go ?_ fun _ => ?_); (focus (first | omega | (simp only [InK]; omega) | (simp [InK] <;> omega))); simp only [↓sx0, sxE, encs, sevalprocAttr])
    refine ⟨2, StLe.auto (by simp only [sx2, encs, sxR, sevalprocAttr] <;> (try simp [hu, encs]) <;> (try omega)), ?_, ?_⟩
    all_goals omega
   ·have hu : mI W 2 = mI W 1 := by
     have : kOf (wAt W 0) ≠ 1 := fun h => hn0 (by rw [← hWg 0 hW1]; exact kOf_nm h (by omega))
     unfold mI
     by_cases q : 1 ≤ kOf (wAt W 0) ∧ kOf (wAt W 0) < 1
     ·rw [if_pos q, if_pos ⟨q.1, by omega⟩]
     ·rw [if_neg q, if_neg (by omega)]
    refine BrW.no (fun h => hn0 (by rw [← bs_data (nmB 1)] at h; exact bs_inj.1 h)) ?_
    simp only [↓sx0, sxE, encs, sevalprocAttr]
    repeat ((with_reducible refine Vc.go ?_ fun _ => ?_); (focus (first | omega | (simp only [InK]; omega) | (simp [InK] <;> omega))); simp only [↓sx0, sxE, encs, sevalprocAttr])
    refine ⟨2, StLe.auto (by simp only [sx2, encs, sxR, sevalprocAttr] <;> (try simp [hu, encs]) <;> (try omega)), ?_, ?_⟩
    all_goals omega
  ·simp only [↓sx0, sxE, encs, sevalprocAttr]
   refine DrawW.plan Tok mixed (.q 0 <| .q 1 <| .q 2 <| .q 3 <| .q 4 <| .q 5 <| .q 6 <| .done) (by kernel_rfl) (by kernel_rfl) ?_
   simp only [↓sx0, sxE, encs, sevalprocAttr]
   refine ⟨by omega, eW W[0], (by rw [show (0 : Int).toNat = 0 from rfl, List.getElem?_map, List.getElem?_eq_getElem (by omega)]; rfl), ?_⟩
   simp only [↓sx0, sxE, encs, sevalprocAttr]
   repeat ((with_reducible refine Vc.go ?_ fun _ => ?_); (focus (first | omega | (simp only [InK]; omega) | (simp [InK] <;> omega))); simp only [↓sx0, sxE, encs, sevalprocAttr])
   by_cases hn0 : W[0] = (nmB 2).data.toList
   ·have hu : mI W 3 = 2 := by simp [mI, hWg 0 hW1, hn0, kOf_is (k := 2) (by omega)]
    refine BrW.yes (by rw [hn0, bs_data]) ?_
    simp only [↓sx0, sxE, encs, sevalprocAttr]
    repeat ((with_reducible refine Vc.go ?_ fun _ => ?_); (focus (first | omega | (simp only [InK]; omega) | (simp [InK] <;> omega))); simp only [↓sx0, sxE, encs, sevalprocAttr])
    refine ⟨3, StLe.auto (by simp only [sx2, encs, sxR, sevalprocAttr] <;> (try simp [hu, encs]) <;> (try omega)), ?_, ?_⟩
    all_goals omega
   ·have hu : mI W 3 = mI W 2 := by
     have : kOf (wAt W 0) ≠ 2 := fun h => hn0 (by rw [← hWg 0 hW1]; exact kOf_nm h (by omega))
     unfold mI
     by_cases q : 1 ≤ kOf (wAt W 0) ∧ kOf (wAt W 0) < 2
     ·rw [if_pos q, if_pos ⟨q.1, by omega⟩]
     ·rw [if_neg q, if_neg (by omega)]
    refine BrW.no (fun h => hn0 (by rw [← bs_data (nmB 2)] at h; exact bs_inj.1 h)) ?_
    simp only [↓sx0, sxE, encs, sevalprocAttr]
    repeat ((with_reducible refine Vc.go ?_ fun _ => ?_); (focus (first | omega | (simp only [InK]; omega) | (simp [InK] <;> omega))); simp only [↓sx0, sxE, encs, sevalprocAttr])
    refine ⟨3, StLe.auto (by simp only [sx2, encs, sxR, sevalprocAttr] <;> (try simp [hu, encs]) <;> (try omega)), ?_, ?_⟩
    all_goals omega
  ·simp only [↓sx0, sxE, encs, sevalprocAttr]
   refine DrawW.plan Tok mixed (.q 0 <| .q 1 <| .q 2 <| .q 3 <| .q 4 <| .q 5 <| .q 6 <| .done) (by kernel_rfl) (by kernel_rfl) ?_
   simp only [↓sx0, sxE, encs, sevalprocAttr]
   refine ⟨by omega, eW W[0], (by rw [show (0 : Int).toNat = 0 from rfl, List.getElem?_map, List.getElem?_eq_getElem (by omega)]; rfl), ?_⟩
   simp only [↓sx0, sxE, encs, sevalprocAttr]
   repeat ((with_reducible refine Vc.go ?_ fun _ => ?_); (focus (first | omega | (simp only [InK]; omega) | (simp [InK] <;> omega))); simp only [↓sx0, sxE, encs, sevalprocAttr])
   by_cases hn0 : W[0] = (nmB 3).data.toList
   ·have hu : mI W 4 = 3 := by simp [mI, hWg 0 hW1, hn0, kOf_is (k := 3) (by omega)]
    refine BrW.yes (by rw [hn0, bs_data]) ?_
    simp only [↓sx0, sxE, encs, sevalprocAttr]
    repeat ((with_reducible refine Vc.go ?_ fun _ => ?_); (focus (first | omega | (simp only [InK]; omega) | (simp [InK] <;> omega))); simp only [↓sx0, sxE, encs, sevalprocAttr])
    refine ⟨4, StLe.auto (by simp only [sx2, encs, sxR, sevalprocAttr] <;> (try simp [hu, encs]) <;> (try omega)), ?_, ?_⟩
    all_goals omega
   ·have hu : mI W 4 = mI W 3 := by
     have : kOf (wAt W 0) ≠ 3 := fun h => hn0 (by rw [← hWg 0 hW1]; exact kOf_nm h (by omega))
     unfold mI
     by_cases q : 1 ≤ kOf (wAt W 0) ∧ kOf (wAt W 0) < 3
     ·rw [if_pos q, if_pos ⟨q.1, by omega⟩]
     ·rw [if_neg q, if_neg (by omega)]
    refine BrW.no (fun h => hn0 (by rw [← bs_data (nmB 3)] at h; exact bs_inj.1 h)) ?_
    simp only [↓sx0, sxE, encs, sevalprocAttr]
    repeat ((with_reducible refine Vc.go ?_ fun _ => ?_); (focus (first | omega | (simp only [InK]; omega) | (simp [InK] <;> omega))); simp only [↓sx0, sxE, encs, sevalprocAttr])
    refine ⟨4, StLe.auto (by simp only [sx2, encs, sxR, sevalprocAttr] <;> (try simp [hu, encs]) <;> (try omega)), ?_, ?_⟩
    all_goals omega
  ·simp only [↓sx0, sxE, encs, sevalprocAttr]
   refine DrawW.plan Tok mixed (.q 0 <| .q 1 <| .q 2 <| .q 3 <| .q 4 <| .q 5 <| .q 6 <| .done) (by kernel_rfl) (by kernel_rfl) ?_
   simp only [↓sx0, sxE, encs, sevalprocAttr]
   refine ⟨by omega, eW W[0], (by rw [show (0 : Int).toNat = 0 from rfl, List.getElem?_map, List.getElem?_eq_getElem (by omega)]; rfl), ?_⟩
   simp only [↓sx0, sxE, encs, sevalprocAttr]
   repeat ((with_reducible refine Vc.go ?_ fun _ => ?_); (focus (first | omega | (simp only [InK]; omega) | (simp [InK] <;> omega))); simp only [↓sx0, sxE, encs, sevalprocAttr])
   by_cases hn0 : W[0] = (nmB 4).data.toList
   ·have hu : mI W 5 = 4 := by simp [mI, hWg 0 hW1, hn0, kOf_is (k := 4) (by omega)]
    refine BrW.yes (by rw [hn0, bs_data]) ?_
    simp only [↓sx0, sxE, encs, sevalprocAttr]
    repeat ((with_reducible refine Vc.go ?_ fun _ => ?_); (focus (first | omega | (simp only [InK]; omega) | (simp [InK] <;> omega))); simp only [↓sx0, sxE, encs, sevalprocAttr])
    refine ⟨5, StLe.auto (by simp only [sx2, encs, sxR, sevalprocAttr] <;> (try simp [hu, encs]) <;> (try omega)), ?_, ?_⟩
    all_goals omega
   ·have hu : mI W 5 = mI W 4 := by
     have : kOf (wAt W 0) ≠ 4 := fun h => hn0 (by rw [← hWg 0 hW1]; exact kOf_nm h (by omega))
     unfold mI
     by_cases q : 1 ≤ kOf (wAt W 0) ∧ kOf (wAt W 0) < 4
     ·rw [if_pos q, if_pos ⟨q.1, by omega⟩]
     ·rw [if_neg q, if_neg (by omega)]
    refine BrW.no (fun h => hn0 (by rw [← bs_data (nmB 4)] at h; exact bs_inj.1 h)) ?_
    simp only [↓sx0, sxE, encs, sevalprocAttr]
    repeat ((with_reducible refine Vc.go ?_ fun _ => ?_); (focus (first | omega | (simp only [InK]; omega) | (simp [InK] <;> omega))); simp only [↓sx0, sxE, encs, sevalprocAttr])
    refine ⟨5, StLe.auto (by simp only [sx2, encs, sxR, sevalprocAttr] <;> (try simp [hu, encs]) <;> (try omega)), ?_, ?_⟩
    all_goals omega
  ·simp only [↓sx0, sxE, encs, sevalprocAttr]
   refine DrawW.plan Tok mixed (.q 0 <| .q 1 <| .q 2 <| .q 3 <| .q 4 <| .q 5 <| .q 6 <| .done) (by kernel_rfl) (by kernel_rfl) ?_
   simp only [↓sx0, sxE, encs, sevalprocAttr]
   refine ⟨by omega, eW W[0], (by rw [show (0 : Int).toNat = 0 from rfl, List.getElem?_map, List.getElem?_eq_getElem (by omega)]; rfl), ?_⟩
   simp only [↓sx0, sxE, encs, sevalprocAttr]
   repeat ((with_reducible refine Vc.go ?_ fun _ => ?_); (focus (first | omega | (simp only [InK]; omega) | (simp [InK] <;> omega))); simp only [↓sx0, sxE, encs, sevalprocAttr])
   by_cases hn0 : W[0] = (nmB 5).data.toList
   ·have hu : mI W 6 = 5 := by simp [mI, hWg 0 hW1, hn0, kOf_is (k := 5) (by omega)]
    refine BrW.yes (by rw [hn0, bs_data]) ?_
    simp only [↓sx0, sxE, encs, sevalprocAttr]
    repeat ((with_reducible refine Vc.go ?_ fun _ => ?_); (focus (first | omega | (simp only [InK]; omega) | (simp [InK] <;> omega))); simp only [↓sx0, sxE, encs, sevalprocAttr])
    refine ⟨6, StLe.auto (by simp only [sx2, encs, sxR, sevalprocAttr] <;> (try simp [hu, encs]) <;> (try omega)), ?_, ?_⟩
    all_goals omega
   ·have hu : mI W 6 = mI W 5 := by
     have : kOf (wAt W 0) ≠ 5 := fun h => hn0 (by rw [← hWg 0 hW1]; exact kOf_nm h (by omega))
     unfold mI
     by_cases q : 1 ≤ kOf (wAt W 0) ∧ kOf (wAt W 0) < 5
     ·rw [if_pos q, if_pos ⟨q.1, by omega⟩]
     ·rw [if_neg q, if_neg (by omega)]
    refine BrW.no (fun h => hn0 (by rw [← bs_data (nmB 5)] at h; exact bs_inj.1 h)) ?_
    simp only [↓sx0, sxE, encs, sevalprocAttr]
    repeat ((with_reducible refine Vc.go ?_ fun _ => ?_); (focus (first | omega | (simp only [InK]; omega) | (simp [InK] <;> omega))); simp only [↓sx0, sxE, encs, sevalprocAttr])
    refine ⟨6, StLe.auto (by simp only [sx2, encs, sxR, sevalprocAttr] <;> (try simp [hu, encs]) <;> (try omega)), ?_, ?_⟩
    all_goals omega
  ·simp only [↓sx0, sxE, encs, sevalprocAttr]
   refine DrawW.plan Tok mixed (.q 0 <| .q 1 <| .q 2 <| .q 3 <| .q 4 <| .q 5 <| .q 6 <| .done) (by kernel_rfl) (by kernel_rfl) ?_
   simp only [↓sx0, sxE, encs, sevalprocAttr]
   refine ⟨by omega, eW W[0], (by rw [show (0 : Int).toNat = 0 from rfl, List.getElem?_map, List.getElem?_eq_getElem (by omega)]; rfl), ?_⟩
   simp only [↓sx0, sxE, encs, sevalprocAttr]
   repeat ((with_reducible refine Vc.go ?_ fun _ => ?_); (focus (first | omega | (simp only [InK]; omega) | (simp [InK] <;> omega))); simp only [↓sx0, sxE, encs, sevalprocAttr])
   by_cases hn0 : W[0] = (nmB 6).data.toList
   ·have hu : mI W 7 = 6 := by simp [mI, hWg 0 hW1, hn0, kOf_is (k := 6) (by omega)]
    refine BrW.yes (by rw [hn0, bs_data]) ?_
    simp only [↓sx0, sxE, encs, sevalprocAttr]
    repeat ((with_reducible refine Vc.go ?_ fun _ => ?_); (focus (first | omega | (simp only [InK]; omega) | (simp [InK] <;> omega))); simp only [↓sx0, sxE, encs, sevalprocAttr])
    refine ⟨7, StLe.auto (by simp only [sx2, encs, sxR, sevalprocAttr] <;> (try simp [hu, encs]) <;> (try omega)), ?_, ?_⟩
    all_goals omega
   ·have hu : mI W 7 = mI W 6 := by
     have : kOf (wAt W 0) ≠ 6 := fun h => hn0 (by rw [← hWg 0 hW1]; exact kOf_nm h (by omega))
     unfold mI
     by_cases q : 1 ≤ kOf (wAt W 0) ∧ kOf (wAt W 0) < 6
     ·rw [if_pos q, if_pos ⟨q.1, by omega⟩]
     ·rw [if_neg q, if_neg (by omega)]
    refine BrW.no (fun h => hn0 (by rw [← bs_data (nmB 6)] at h; exact bs_inj.1 h)) ?_
    simp only [↓sx0, sxE, encs, sevalprocAttr]
    repeat ((with_reducible refine Vc.go ?_ fun _ => ?_); (focus (first | omega | (simp only [InK]; omega) | (simp [InK] <;> omega))); simp only [↓sx0, sxE, encs, sevalprocAttr])
    refine ⟨7, StLe.auto (by simp only [sx2, encs, sxR, sevalprocAttr] <;> (try simp [hu, encs]) <;> (try omega)), ?_, ?_⟩
    all_goals omega
  ·simp only [↓sx0, sxE, encs, sevalprocAttr]
   refine DrawW.plan Tok mixed (.q 0 <| .q 1 <| .q 2 <| .q 3 <| .q 4 <| .q 5 <| .q 6 <| .done) (by kernel_rfl) (by kernel_rfl) ?_
   simp only [↓sx0, sxE, encs, sevalprocAttr]
   refine ⟨by omega, eW W[0], (by rw [show (0 : Int).toNat = 0 from rfl, List.getElem?_map, List.getElem?_eq_getElem (by omega)]; rfl), ?_⟩
   simp only [↓sx0, sxE, encs, sevalprocAttr]
   repeat ((with_reducible refine Vc.go ?_ fun _ => ?_); (focus (first | omega | (simp only [InK]; omega) | (simp [InK] <;> omega))); simp only [↓sx0, sxE, encs, sevalprocAttr])
   by_cases hn0 : W[0] = (nmB 7).data.toList
   ·have hu : mI W 8 = 7 := by simp [mI, hWg 0 hW1, hn0, kOf_is (k := 7) (by omega)]
    refine BrW.yes (by rw [hn0, bs_data]) ?_
    simp only [↓sx0, sxE, encs, sevalprocAttr]
    repeat ((with_reducible refine Vc.go ?_ fun _ => ?_); (focus (first | omega | (simp only [InK]; omega) | (simp [InK] <;> omega))); simp only [↓sx0, sxE, encs, sevalprocAttr])
    refine ⟨8, StLe.auto (by simp only [sx2, encs, sxR, sevalprocAttr] <;> (try simp [hu, encs]) <;> (try omega)), ?_, ?_⟩
    all_goals omega
   ·have hu : mI W 8 = mI W 7 := by
     have : kOf (wAt W 0) ≠ 7 := fun h => hn0 (by rw [← hWg 0 hW1]; exact kOf_nm h (by omega))
     unfold mI
     by_cases q : 1 ≤ kOf (wAt W 0) ∧ kOf (wAt W 0) < 7
     ·rw [if_pos q, if_pos ⟨q.1, by omega⟩]
     ·rw [if_neg q, if_neg (by omega)]
    refine BrW.no (fun h => hn0 (by rw [← bs_data (nmB 7)] at h; exact bs_inj.1 h)) ?_
    simp only [↓sx0, sxE, encs, sevalprocAttr]
    repeat ((with_reducible refine Vc.go ?_ fun _ => ?_); (focus (first | omega | (simp only [InK]; omega) | (simp [InK] <;> omega))); simp only [↓sx0, sxE, encs, sevalprocAttr])
    refine ⟨8, StLe.auto (by simp only [sx2, encs, sxR, sevalprocAttr] <;> (try simp [hu, encs]) <;> (try omega)), ?_, ?_⟩
    all_goals omega
 have hke : k = 8 := by omega
 subst hke
 have hle := kOf_le (wAt W 0)
 have hm8 : mI W 8 = (kOf (wAt W 0) : Int) := by
  unfold mI
  split
  ·rfl
  ·have : kOf (wAt W 0) = 0 := by omega
   rw [this]; rfl
 rw [hm8]
 generalize kOf (wAt W 0) = K at hpr hle
 have hc : K = 0 ∨ K = 1 ∨ K = 2 ∨ K = 3 ∨ K = 4 ∨ K = 5 ∨ K = 6 ∨ K = 7 := by omega
 rcases hc with rfl | rfl | rfl | rfl | rfl | rfl | rfl | rfl
 ·rw [if_neg (by omega)] at hpr
  subst hpr
  simp only [↓sx0, sxE, encs, sevalprocAttr]
  refine EndW.fn ?_ ?_ <;> simp only [sx4, encs, kpLL_map, sxR, sevalprocAttr] <;> (try simp [mk00, em]) <;> (try omega)
 ·simp only [↓sx0, sxE, encs, sevalprocAttr]
  repeat ((with_reducible refine Vc.go ?_ fun _ => ?_); (focus (first | omega | (simp only [InK]; omega) | (simp [InK] <;> omega))); simp only [↓sx0, sxE, encs, sevalprocAttr])
  refine ArrIx.go (by simp) ?_
  simp only [↓sx0, sxE, encs, sevalprocAttr]
  by_cases hln : W.length = 4
  ·refine BrW.no (by omega) ?_
   have c1 := number_R W[1] 7 (by decide) (by have := hWs _ (List.getElem_mem (show 1 < W.length by omega)); omega)
   obtain ⟨n1, o1, hn1⟩ : ∃ n o, nuR (wAt W 1) = (n, o) := ⟨_, _, rfl⟩
   rw [show numR W[1] 7 = (n1, o1) by rw [← hn1, hWg 1 (by omega)]; rfl] at c1
   have c2 := number_R W[2] 7 (by decide) (by have := hWs _ (List.getElem_mem (show 2 < W.length by omega)); omega)
   obtain ⟨n2, o2, hn2⟩ : ∃ n o, nuR (wAt W 2) = (n, o) := ⟨_, _, rfl⟩
   rw [show numR W[2] 7 = (n2, o2) by rw [← hn2, hWg 2 (by omega)]; rfl] at c2
   simp only [↓sx0, sxE, encs, sevalprocAttr]
   refine ⟨by omega, eW W[1], (by rw [show (1 : Int).toNat = 1 from rfl, List.getElem?_map, List.getElem?_eq_getElem (by omega)]; rfl), ?_⟩
   simp only [↓sx0, sxE, encs, sevalprocAttr]
   refine CallI.fn (c1) (by simp only [sx3, encs, sxR, sevalprocAttr] <;> (try simp) <;> (try rfl)) ?_
   simp only [↓sx0, sxE, encs, sevalprocAttr]
   refine ⟨by omega, eW W[2], (by rw [show (2 : Int).toNat = 2 from rfl, List.getElem?_map, List.getElem?_eq_getElem (by omega)]; rfl), ?_⟩
   simp only [↓sx0, sxE, encs, sevalprocAttr]
   refine CallI.fn (c2) (by simp only [sx3, encs, sxR, sevalprocAttr] <;> (try simp) <;> (try rfl)) ?_
   simp only [↓sx0, sxE, encs, sevalprocAttr]
   cases o1
   ·have hof : okK nuR W 1 = false := by simp [okK, lenK, hln, hn1, hn2]
    rw [if_neg (by rintro ⟨_, q⟩; rw [hof] at q; cases q)] at hpr
    subst hpr
    simp only [↓sx0, sxE, encs, sevalprocAttr]
    refine EndW.fn ?_ ?_ <;> simp only [sx4, encs, kpLL_map, sxR, sevalprocAttr] <;> (try simp [mk00, em]) <;> (try omega)
   cases o2
   ·have hof : okK nuR W 1 = false := by simp [okK, lenK, hln, hn1, hn2]
    rw [if_neg (by rintro ⟨_, q⟩; rw [hof] at q; cases q)] at hpr
    subst hpr
    simp only [↓sx0, sxE, encs, sevalprocAttr]
    refine EndW.fn ?_ ?_ <;> simp only [sx4, encs, kpLL_map, sxR, sevalprocAttr] <;> (try simp [mk00, em]) <;> (try omega)
   have hok2 : okK nuR W 1 = true := by simp [okK, lenK, hln, hn1, hn2]
   rw [if_pos ⟨by omega, hok2⟩] at hpr
   obtain ⟨X, hX⟩ : ∃ X, X = mkK nuR W 1 := ⟨_, rfl⟩
   rw [← hX] at hpr
   have hsz : MkSz X := by
    have hs : ∀ i, (sAt W i).size ≤ 1000000000 := fun i => by
     unfold sAt; rw [bs_size]
     by_cases hi : i < W.length
     ·have := hWs _ (List.getElem_mem hi); rw [hWg i hi]; omega
     ·unfold wAt; rw [List.getElem?_eq_none (by omega)]; simp
    rw [hX]; exact ⟨by simp only [mkK]; split <;> first | exact hs _ | decide, by simp only [mkK]; (repeat' split) <;> first | exact hs _ | decide⟩
   have hcell : (X.mark = 1) ∧ X.part = n1 ∧ X.word = n2 ∧ X.old = bs W[3] ∧ X.new = em ∧ X.was = 0 ∧ X.kind = 0 := by rw [hX]; simp [mkK, hn1, hn2, sAt, hWg 3 (by omega)]
   have encs := And.intro encs hcell
   simp only [↓sx0, sxE, encs, sevalprocAttr]
   refine ⟨by omega, eW W[3], (by rw [show (3 : Int).toNat = 3 from rfl, List.getElem?_map, List.getElem?_eq_getElem (by omega)]; rfl), ?_⟩
   simp only [↓sx0, sxE, encs, sevalprocAttr]
   refine CallI.fn (checkMarkR_s X hsz) (by simp only [sx3, encs, sxR, sevalprocAttr] <;> (try simp) <;> (try rfl)) ?_
   simp only [↓sx0, sxE, encs, sevalprocAttr]
   refine BrW.dec (fun he => ?_) (fun he => ?_)
   ·rw [if_neg he] at hpr
    subst hpr
    simp only [↓sx0, sxE, encs, sevalprocAttr]
    refine EndW.fn ?_ ?_ <;> simp only [sx4, encs, kpLL_map, sxR, sevalprocAttr] <;> (try simp [mk00, em]) <;> (try omega)
   ·rw [if_pos (Decidable.not_not.1 he)] at hpr
    subst hpr
    simp only [↓sx0, sxE, encs, sevalprocAttr]
    refine EndW.fn ?_ ?_ <;> simp only [sx4, encs, kpLL_map, sxR, sevalprocAttr] <;> (try simp) <;> (try omega)
  ·refine BrW.yes (by omega) ?_
   have hof : okK nuR W 1 = false := by simp [okK, lenK, hln]
   rw [if_neg (by rintro ⟨_, q⟩; rw [hof] at q; cases q)] at hpr
   subst hpr
   simp only [↓sx0, sxE, encs, sevalprocAttr]
   refine EndW.fn ?_ ?_ <;> simp only [sx4, encs, kpLL_map, sxR, sevalprocAttr] <;> (try simp [mk00, em]) <;> (try omega)
 ·simp only [↓sx0, sxE, encs, sevalprocAttr]
  repeat ((with_reducible refine Vc.go ?_ fun _ => ?_); (focus (first | omega | (simp only [InK]; omega) | (simp [InK] <;> omega))); simp only [↓sx0, sxE, encs, sevalprocAttr])
  refine ArrIx.go (by simp) ?_
  simp only [↓sx0, sxE, encs, sevalprocAttr]
  by_cases hln : W.length = 4
  ·refine BrW.no (by omega) ?_
   have c1 := number_R W[1] 7 (by decide) (by have := hWs _ (List.getElem_mem (show 1 < W.length by omega)); omega)
   obtain ⟨n1, o1, hn1⟩ : ∃ n o, nuR (wAt W 1) = (n, o) := ⟨_, _, rfl⟩
   rw [show numR W[1] 7 = (n1, o1) by rw [← hn1, hWg 1 (by omega)]; rfl] at c1
   have c2 := number_R W[2] 7 (by decide) (by have := hWs _ (List.getElem_mem (show 2 < W.length by omega)); omega)
   obtain ⟨n2, o2, hn2⟩ : ∃ n o, nuR (wAt W 2) = (n, o) := ⟨_, _, rfl⟩
   rw [show numR W[2] 7 = (n2, o2) by rw [← hn2, hWg 2 (by omega)]; rfl] at c2
   simp only [↓sx0, sxE, encs, sevalprocAttr]
   refine ⟨by omega, eW W[1], (by rw [show (1 : Int).toNat = 1 from rfl, List.getElem?_map, List.getElem?_eq_getElem (by omega)]; rfl), ?_⟩
   simp only [↓sx0, sxE, encs, sevalprocAttr]
   refine CallI.fn (c1) (by simp only [sx3, encs, sxR, sevalprocAttr] <;> (try simp) <;> (try rfl)) ?_
   simp only [↓sx0, sxE, encs, sevalprocAttr]
   refine ⟨by omega, eW W[2], (by rw [show (2 : Int).toNat = 2 from rfl, List.getElem?_map, List.getElem?_eq_getElem (by omega)]; rfl), ?_⟩
   simp only [↓sx0, sxE, encs, sevalprocAttr]
   refine CallI.fn (c2) (by simp only [sx3, encs, sxR, sevalprocAttr] <;> (try simp) <;> (try rfl)) ?_
   simp only [↓sx0, sxE, encs, sevalprocAttr]
   cases o1
   ·have hof : okK nuR W 2 = false := by simp [okK, lenK, hln, hn1, hn2]
    rw [if_neg (by rintro ⟨_, q⟩; rw [hof] at q; cases q)] at hpr
    subst hpr
    simp only [↓sx0, sxE, encs, sevalprocAttr]
    refine EndW.fn ?_ ?_ <;> simp only [sx4, encs, kpLL_map, sxR, sevalprocAttr] <;> (try simp [mk00, em]) <;> (try omega)
   cases o2
   ·have hof : okK nuR W 2 = false := by simp [okK, lenK, hln, hn1, hn2]
    rw [if_neg (by rintro ⟨_, q⟩; rw [hof] at q; cases q)] at hpr
    subst hpr
    simp only [↓sx0, sxE, encs, sevalprocAttr]
    refine EndW.fn ?_ ?_ <;> simp only [sx4, encs, kpLL_map, sxR, sevalprocAttr] <;> (try simp [mk00, em]) <;> (try omega)
   have hok2 : okK nuR W 2 = true := by simp [okK, lenK, hln, hn1, hn2]
   rw [if_pos ⟨by omega, hok2⟩] at hpr
   obtain ⟨X, hX⟩ : ∃ X, X = mkK nuR W 2 := ⟨_, rfl⟩
   rw [← hX] at hpr
   have hsz : MkSz X := by
    have hs : ∀ i, (sAt W i).size ≤ 1000000000 := fun i => by
     unfold sAt; rw [bs_size]
     by_cases hi : i < W.length
     ·have := hWs _ (List.getElem_mem hi); rw [hWg i hi]; omega
     ·unfold wAt; rw [List.getElem?_eq_none (by omega)]; simp
    rw [hX]; exact ⟨by simp only [mkK]; split <;> first | exact hs _ | decide, by simp only [mkK]; (repeat' split) <;> first | exact hs _ | decide⟩
   have hcell : (X.mark = 2) ∧ X.part = n1 ∧ X.word = n2 ∧ X.old = em ∧ X.new = bs W[3] ∧ X.was = 0 ∧ X.kind = 0 := by rw [hX]; simp [mkK, hn1, hn2, sAt, hWg 3 (by omega)]
   have encs := And.intro encs hcell
   simp only [↓sx0, sxE, encs, sevalprocAttr]
   refine ⟨by omega, eW W[3], (by rw [show (3 : Int).toNat = 3 from rfl, List.getElem?_map, List.getElem?_eq_getElem (by omega)]; rfl), ?_⟩
   simp only [↓sx0, sxE, encs, sevalprocAttr]
   refine CallI.fn (checkMarkR_s X hsz) (by simp only [sx3, encs, sxR, sevalprocAttr] <;> (try simp) <;> (try rfl)) ?_
   simp only [↓sx0, sxE, encs, sevalprocAttr]
   refine BrW.dec (fun he => ?_) (fun he => ?_)
   ·rw [if_neg he] at hpr
    subst hpr
    simp only [↓sx0, sxE, encs, sevalprocAttr]
    refine EndW.fn ?_ ?_ <;> simp only [sx4, encs, kpLL_map, sxR, sevalprocAttr] <;> (try simp [mk00, em]) <;> (try omega)
   ·rw [if_pos (Decidable.not_not.1 he)] at hpr
    subst hpr
    simp only [↓sx0, sxE, encs, sevalprocAttr]
    refine EndW.fn ?_ ?_ <;> simp only [sx4, encs, kpLL_map, sxR, sevalprocAttr] <;> (try simp) <;> (try omega)
  ·refine BrW.yes (by omega) ?_
   have hof : okK nuR W 2 = false := by simp [okK, lenK, hln]
   rw [if_neg (by rintro ⟨_, q⟩; rw [hof] at q; cases q)] at hpr
   subst hpr
   simp only [↓sx0, sxE, encs, sevalprocAttr]
   refine EndW.fn ?_ ?_ <;> simp only [sx4, encs, kpLL_map, sxR, sevalprocAttr] <;> (try simp [mk00, em]) <;> (try omega)
 ·simp only [↓sx0, sxE, encs, sevalprocAttr]
  repeat ((with_reducible refine Vc.go ?_ fun _ => ?_); (focus (first | omega | (simp only [InK]; omega) | (simp [InK] <;> omega))); simp only [↓sx0, sxE, encs, sevalprocAttr])
  refine ArrIx.go (by simp) ?_
  simp only [↓sx0, sxE, encs, sevalprocAttr]
  by_cases hln : W.length = 5
  ·refine BrW.no (by omega) ?_
   have c1 := number_R W[1] 7 (by decide) (by have := hWs _ (List.getElem_mem (show 1 < W.length by omega)); omega)
   obtain ⟨n1, o1, hn1⟩ : ∃ n o, nuR (wAt W 1) = (n, o) := ⟨_, _, rfl⟩
   rw [show numR W[1] 7 = (n1, o1) by rw [← hn1, hWg 1 (by omega)]; rfl] at c1
   have c2 := number_R W[2] 7 (by decide) (by have := hWs _ (List.getElem_mem (show 2 < W.length by omega)); omega)
   obtain ⟨n2, o2, hn2⟩ : ∃ n o, nuR (wAt W 2) = (n, o) := ⟨_, _, rfl⟩
   rw [show numR W[2] 7 = (n2, o2) by rw [← hn2, hWg 2 (by omega)]; rfl] at c2
   simp only [↓sx0, sxE, encs, sevalprocAttr]
   refine ⟨by omega, eW W[1], (by rw [show (1 : Int).toNat = 1 from rfl, List.getElem?_map, List.getElem?_eq_getElem (by omega)]; rfl), ?_⟩
   simp only [↓sx0, sxE, encs, sevalprocAttr]
   refine CallI.fn (c1) (by simp only [sx3, encs, sxR, sevalprocAttr] <;> (try simp) <;> (try rfl)) ?_
   simp only [↓sx0, sxE, encs, sevalprocAttr]
   refine ⟨by omega, eW W[2], (by rw [show (2 : Int).toNat = 2 from rfl, List.getElem?_map, List.getElem?_eq_getElem (by omega)]; rfl), ?_⟩
   simp only [↓sx0, sxE, encs, sevalprocAttr]
   refine CallI.fn (c2) (by simp only [sx3, encs, sxR, sevalprocAttr] <;> (try simp) <;> (try rfl)) ?_
   simp only [↓sx0, sxE, encs, sevalprocAttr]
   cases o1
   ·have hof : okK nuR W 3 = false := by simp [okK, lenK, hln, hn1, hn2]
    rw [if_neg (by rintro ⟨_, q⟩; rw [hof] at q; cases q)] at hpr
    subst hpr
    simp only [↓sx0, sxE, encs, sevalprocAttr]
    refine EndW.fn ?_ ?_ <;> simp only [sx4, encs, kpLL_map, sxR, sevalprocAttr] <;> (try simp [mk00, em]) <;> (try omega)
   cases o2
   ·have hof : okK nuR W 3 = false := by simp [okK, lenK, hln, hn1, hn2]
    rw [if_neg (by rintro ⟨_, q⟩; rw [hof] at q; cases q)] at hpr
    subst hpr
    simp only [↓sx0, sxE, encs, sevalprocAttr]
    refine EndW.fn ?_ ?_ <;> simp only [sx4, encs, kpLL_map, sxR, sevalprocAttr] <;> (try simp [mk00, em]) <;> (try omega)
   have hok2 : okK nuR W 3 = true := by simp [okK, lenK, hln, hn1, hn2]
   rw [if_pos ⟨by omega, hok2⟩] at hpr
   obtain ⟨X, hX⟩ : ∃ X, X = mkK nuR W 3 := ⟨_, rfl⟩
   rw [← hX] at hpr
   have hsz : MkSz X := by
    have hs : ∀ i, (sAt W i).size ≤ 1000000000 := fun i => by
     unfold sAt; rw [bs_size]
     by_cases hi : i < W.length
     ·have := hWs _ (List.getElem_mem hi); rw [hWg i hi]; omega
     ·unfold wAt; rw [List.getElem?_eq_none (by omega)]; simp
    rw [hX]; exact ⟨by simp only [mkK]; split <;> first | exact hs _ | decide, by simp only [mkK]; (repeat' split) <;> first | exact hs _ | decide⟩
   have hcell : (X.mark = 3) ∧ X.part = n1 ∧ X.word = n2 ∧ X.old = bs W[3] ∧ X.new = bs W[4] ∧ X.was = 0 ∧ X.kind = 0 := by rw [hX]; simp [mkK, hn1, hn2, sAt, hWg 3 (by omega), hWg 4 (by omega)]
   have encs := And.intro encs hcell
   simp only [↓sx0, sxE, encs, sevalprocAttr]
   refine DrawW.plan Tok mixed (.q 0 <| .q 1 <| .q 2 <| .q 3 <| .q 4 <| .q 5 <| .q 6 <| .e 7 [5] <| .q 8 <| .e 9 [] <| .done) (by kernel_rfl) (by kernel_rfl) ?_
   simp only [↓sx0, sxE, encs, sevalprocAttr]
   refine ⟨by omega, eW W[3], (by rw [show (3 : Int).toNat = 3 from rfl, List.getElem?_map, List.getElem?_eq_getElem (by omega)]; rfl), ?_⟩
   simp only [↓sx0, sxE, encs, sevalprocAttr]
   refine ⟨by omega, eW W[4], (by rw [show (4 : Int).toNat = 4 from rfl, List.getElem?_map, List.getElem?_eq_getElem (by omega)]; rfl), ?_⟩
   simp only [↓sx0, sxE, encs, sevalprocAttr]
   refine CallI.fn (checkMarkR_s X hsz) (by simp only [sx3, encs, sxR, sevalprocAttr] <;> (try simp) <;> (try rfl)) ?_
   simp only [↓sx0, sxE, encs, sevalprocAttr]
   refine BrW.dec (fun he => ?_) (fun he => ?_)
   ·rw [if_neg he] at hpr
    subst hpr
    simp only [↓sx0, sxE, encs, sevalprocAttr]
    refine EndW.fn ?_ ?_ <;> simp only [sx4, encs, kpLL_map, sxR, sevalprocAttr] <;> (try simp [mk00, em]) <;> (try omega)
   ·rw [if_pos (Decidable.not_not.1 he)] at hpr
    subst hpr
    simp only [↓sx0, sxE, encs, sevalprocAttr]
    refine EndW.fn ?_ ?_ <;> simp only [sx4, encs, kpLL_map, sxR, sevalprocAttr] <;> (try simp) <;> (try omega)
  ·refine BrW.yes (by omega) ?_
   have hof : okK nuR W 3 = false := by simp [okK, lenK, hln]
   rw [if_neg (by rintro ⟨_, q⟩; rw [hof] at q; cases q)] at hpr
   subst hpr
   simp only [↓sx0, sxE, encs, sevalprocAttr]
   refine EndW.fn ?_ ?_ <;> simp only [sx4, encs, kpLL_map, sxR, sevalprocAttr] <;> (try simp [mk00, em]) <;> (try omega)
 ·simp only [↓sx0, sxE, encs, sevalprocAttr]
  repeat ((with_reducible refine Vc.go ?_ fun _ => ?_); (focus (first | omega | (simp only [InK]; omega) | (simp [InK] <;> omega))); simp only [↓sx0, sxE, encs, sevalprocAttr])
  refine ArrIx.go (by simp) ?_
  simp only [↓sx0, sxE, encs, sevalprocAttr]
  by_cases hln : W.length = 3
  ·refine BrW.no (by omega) ?_
   have c1 := number_R W[1] 7 (by decide) (by have := hWs _ (List.getElem_mem (show 1 < W.length by omega)); omega)
   obtain ⟨n1, o1, hn1⟩ : ∃ n o, nuR (wAt W 1) = (n, o) := ⟨_, _, rfl⟩
   rw [show numR W[1] 7 = (n1, o1) by rw [← hn1, hWg 1 (by omega)]; rfl] at c1
   have c2 := number_R W[2] 7 (by decide) (by have := hWs _ (List.getElem_mem (show 2 < W.length by omega)); omega)
   obtain ⟨n2, o2, hn2⟩ : ∃ n o, nuR (wAt W 2) = (n, o) := ⟨_, _, rfl⟩
   rw [show numR W[2] 7 = (n2, o2) by rw [← hn2, hWg 2 (by omega)]; rfl] at c2
   simp only [↓sx0, sxE, encs, sevalprocAttr]
   refine ⟨by omega, eW W[1], (by rw [show (1 : Int).toNat = 1 from rfl, List.getElem?_map, List.getElem?_eq_getElem (by omega)]; rfl), ?_⟩
   simp only [↓sx0, sxE, encs, sevalprocAttr]
   refine CallI.fn (c1) (by simp only [sx3, encs, sxR, sevalprocAttr] <;> (try simp) <;> (try rfl)) ?_
   simp only [↓sx0, sxE, encs, sevalprocAttr]
   refine ⟨by omega, eW W[2], (by rw [show (2 : Int).toNat = 2 from rfl, List.getElem?_map, List.getElem?_eq_getElem (by omega)]; rfl), ?_⟩
   simp only [↓sx0, sxE, encs, sevalprocAttr]
   refine CallI.fn (c2) (by simp only [sx3, encs, sxR, sevalprocAttr] <;> (try simp) <;> (try rfl)) ?_
   simp only [↓sx0, sxE, encs, sevalprocAttr]
   cases o1
   ·have hof : okK nuR W 4 = false := by simp [okK, lenK, hln, hn1, hn2]
    rw [if_neg (by rintro ⟨_, q⟩; rw [hof] at q; cases q)] at hpr
    subst hpr
    simp only [↓sx0, sxE, encs, sevalprocAttr]
    refine EndW.fn ?_ ?_ <;> simp only [sx4, encs, kpLL_map, sxR, sevalprocAttr] <;> (try simp [mk00, em]) <;> (try omega)
   cases o2
   ·have hof : okK nuR W 4 = false := by simp [okK, lenK, hln, hn1, hn2]
    rw [if_neg (by rintro ⟨_, q⟩; rw [hof] at q; cases q)] at hpr
    subst hpr
    simp only [↓sx0, sxE, encs, sevalprocAttr]
    refine EndW.fn ?_ ?_ <;> simp only [sx4, encs, kpLL_map, sxR, sevalprocAttr] <;> (try simp [mk00, em]) <;> (try omega)
   have hok2 : okK nuR W 4 = true := by simp [okK, lenK, hln, hn1, hn2]
   rw [if_pos ⟨by omega, hok2⟩] at hpr
   obtain ⟨X, hX⟩ : ∃ X, X = mkK nuR W 4 := ⟨_, rfl⟩
   rw [← hX] at hpr
   have hsz : MkSz X := by
    have hs : ∀ i, (sAt W i).size ≤ 1000000000 := fun i => by
     unfold sAt; rw [bs_size]
     by_cases hi : i < W.length
     ·have := hWs _ (List.getElem_mem hi); rw [hWg i hi]; omega
     ·unfold wAt; rw [List.getElem?_eq_none (by omega)]; simp
    rw [hX]; exact ⟨by simp only [mkK]; split <;> first | exact hs _ | decide, by simp only [mkK]; (repeat' split) <;> first | exact hs _ | decide⟩
   have hcell : (X.mark = 4) ∧ X.part = n1 ∧ X.word = n2 ∧ X.old = em ∧ X.new = em ∧ X.was = 0 ∧ X.kind = 0 := by rw [hX]; simp [mkK, hn1, hn2, sAt]
   have encs := And.intro encs hcell
   simp only [↓sx0, sxE, encs, sevalprocAttr]
   refine CallI.fn (checkMarkR_s X hsz) (by simp only [sx3, encs, sxR, sevalprocAttr] <;> (try simp) <;> (try rfl)) ?_
   simp only [↓sx0, sxE, encs, sevalprocAttr]
   refine BrW.dec (fun he => ?_) (fun he => ?_)
   ·rw [if_neg he] at hpr
    subst hpr
    simp only [↓sx0, sxE, encs, sevalprocAttr]
    refine EndW.fn ?_ ?_ <;> simp only [sx4, encs, kpLL_map, sxR, sevalprocAttr] <;> (try simp [mk00, em]) <;> (try omega)
   ·rw [if_pos (Decidable.not_not.1 he)] at hpr
    subst hpr
    simp only [↓sx0, sxE, encs, sevalprocAttr]
    refine EndW.fn ?_ ?_ <;> simp only [sx4, encs, kpLL_map, sxR, sevalprocAttr] <;> (try simp) <;> (try omega)
  ·refine BrW.yes (by omega) ?_
   have hof : okK nuR W 4 = false := by simp [okK, lenK, hln]
   rw [if_neg (by rintro ⟨_, q⟩; rw [hof] at q; cases q)] at hpr
   subst hpr
   simp only [↓sx0, sxE, encs, sevalprocAttr]
   refine EndW.fn ?_ ?_ <;> simp only [sx4, encs, kpLL_map, sxR, sevalprocAttr] <;> (try simp [mk00, em]) <;> (try omega)
 ·simp only [↓sx0, sxE, encs, sevalprocAttr]
  repeat ((with_reducible refine Vc.go ?_ fun _ => ?_); (focus (first | omega | (simp only [InK]; omega) | (simp [InK] <;> omega))); simp only [↓sx0, sxE, encs, sevalprocAttr])
  refine ArrIx.go (by simp) ?_
  simp only [↓sx0, sxE, encs, sevalprocAttr]
  by_cases hln : W.length = 4
  ·refine BrW.no (by omega) ?_
   have c1 := number_R W[1] 7 (by decide) (by have := hWs _ (List.getElem_mem (show 1 < W.length by omega)); omega)
   obtain ⟨n1, o1, hn1⟩ : ∃ n o, nuR (wAt W 1) = (n, o) := ⟨_, _, rfl⟩
   rw [show numR W[1] 7 = (n1, o1) by rw [← hn1, hWg 1 (by omega)]; rfl] at c1
   have c2 := number_R W[2] 7 (by decide) (by have := hWs _ (List.getElem_mem (show 2 < W.length by omega)); omega)
   obtain ⟨n2, o2, hn2⟩ : ∃ n o, nuR (wAt W 2) = (n, o) := ⟨_, _, rfl⟩
   rw [show numR W[2] 7 = (n2, o2) by rw [← hn2, hWg 2 (by omega)]; rfl] at c2
   have c3 := number_R W[3] 7 (by decide) (by have := hWs _ (List.getElem_mem (show 3 < W.length by omega)); omega)
   obtain ⟨n3, o3, hn3⟩ : ∃ n o, nuR (wAt W 3) = (n, o) := ⟨_, _, rfl⟩
   rw [show numR W[3] 7 = (n3, o3) by rw [← hn3, hWg 3 (by omega)]; rfl] at c3
   simp only [↓sx0, sxE, encs, sevalprocAttr]
   refine ⟨by omega, eW W[1], (by rw [show (1 : Int).toNat = 1 from rfl, List.getElem?_map, List.getElem?_eq_getElem (by omega)]; rfl), ?_⟩
   simp only [↓sx0, sxE, encs, sevalprocAttr]
   refine CallI.fn (c1) (by simp only [sx3, encs, sxR, sevalprocAttr] <;> (try simp) <;> (try rfl)) ?_
   simp only [↓sx0, sxE, encs, sevalprocAttr]
   refine ⟨by omega, eW W[2], (by rw [show (2 : Int).toNat = 2 from rfl, List.getElem?_map, List.getElem?_eq_getElem (by omega)]; rfl), ?_⟩
   simp only [↓sx0, sxE, encs, sevalprocAttr]
   refine CallI.fn (c2) (by simp only [sx3, encs, sxR, sevalprocAttr] <;> (try simp) <;> (try rfl)) ?_
   simp only [↓sx0, sxE, encs, sevalprocAttr]
   cases o1
   ·have hof : okK nuR W 5 = false := by simp [okK, lenK, hln, hn1, hn2, hn3]
    rw [if_neg (by rintro ⟨_, q⟩; rw [hof] at q; cases q)] at hpr
    subst hpr
    simp only [↓sx0, sxE, encs, sevalprocAttr]
    refine EndW.fn ?_ ?_ <;> simp only [sx4, encs, kpLL_map, sxR, sevalprocAttr] <;> (try simp [mk00, em]) <;> (try omega)
   cases o2
   ·have hof : okK nuR W 5 = false := by simp [okK, lenK, hln, hn1, hn2, hn3]
    rw [if_neg (by rintro ⟨_, q⟩; rw [hof] at q; cases q)] at hpr
    subst hpr
    simp only [↓sx0, sxE, encs, sevalprocAttr]
    refine EndW.fn ?_ ?_ <;> simp only [sx4, encs, kpLL_map, sxR, sevalprocAttr] <;> (try simp [mk00, em]) <;> (try omega)
   simp only [↓sx0, sxE, encs, sevalprocAttr]
   refine ⟨by omega, eW W[3], (by rw [show (3 : Int).toNat = 3 from rfl, List.getElem?_map, List.getElem?_eq_getElem (by omega)]; rfl), ?_⟩
   simp only [↓sx0, sxE, encs, sevalprocAttr]
   refine CallI.fn (c3) (by simp only [sx3, encs, sxR, sevalprocAttr] <;> (try simp) <;> (try rfl)) ?_
   simp only [↓sx0, sxE, encs, sevalprocAttr]
   cases o3
   ·have hof : okK nuR W 5 = false := by simp [okK, lenK, hln, hn1, hn2, hn3]
    rw [if_neg (by rintro ⟨_, q⟩; rw [hof] at q; cases q)] at hpr
    subst hpr
    simp only [↓sx0, sxE, encs, sevalprocAttr]
    refine EndW.fn ?_ ?_ <;> simp only [sx4, encs, kpLL_map, sxR, sevalprocAttr] <;> (try simp [mk00, em]) <;> (try omega)
   have hok2 : okK nuR W 5 = true := by simp [okK, lenK, hln, hn1, hn2, hn3]
   rw [if_pos ⟨by omega, hok2⟩] at hpr
   obtain ⟨X, hX⟩ : ∃ X, X = mkK nuR W 5 := ⟨_, rfl⟩
   rw [← hX] at hpr
   have hsz : MkSz X := by
    have hs : ∀ i, (sAt W i).size ≤ 1000000000 := fun i => by
     unfold sAt; rw [bs_size]
     by_cases hi : i < W.length
     ·have := hWs _ (List.getElem_mem hi); rw [hWg i hi]; omega
     ·unfold wAt; rw [List.getElem?_eq_none (by omega)]; simp
    rw [hX]; exact ⟨by simp only [mkK]; split <;> first | exact hs _ | decide, by simp only [mkK]; (repeat' split) <;> first | exact hs _ | decide⟩
   have hcell : (X.mark = 5) ∧ X.part = n1 ∧ X.word = n2 ∧ X.old = em ∧ X.new = em ∧ X.was = 0 ∧ X.kind = n3 := by rw [hX]; simp [mkK, hn1, hn2, hn3, sAt]
   have encs := And.intro encs hcell
   simp only [↓sx0, sxE, encs, sevalprocAttr]
   refine CallI.fn (checkMarkR_s X hsz) (by simp only [sx3, encs, sxR, sevalprocAttr] <;> (try simp) <;> (try rfl)) ?_
   simp only [↓sx0, sxE, encs, sevalprocAttr]
   refine BrW.dec (fun he => ?_) (fun he => ?_)
   ·rw [if_neg he] at hpr
    subst hpr
    simp only [↓sx0, sxE, encs, sevalprocAttr]
    refine EndW.fn ?_ ?_ <;> simp only [sx4, encs, kpLL_map, sxR, sevalprocAttr] <;> (try simp [mk00, em]) <;> (try omega)
   ·rw [if_pos (Decidable.not_not.1 he)] at hpr
    subst hpr
    simp only [↓sx0, sxE, encs, sevalprocAttr]
    refine EndW.fn ?_ ?_ <;> simp only [sx4, encs, kpLL_map, sxR, sevalprocAttr] <;> (try simp) <;> (try omega)
  ·refine BrW.yes (by omega) ?_
   have hof : okK nuR W 5 = false := by simp [okK, lenK, hln]
   rw [if_neg (by rintro ⟨_, q⟩; rw [hof] at q; cases q)] at hpr
   subst hpr
   simp only [↓sx0, sxE, encs, sevalprocAttr]
   refine EndW.fn ?_ ?_ <;> simp only [sx4, encs, kpLL_map, sxR, sevalprocAttr] <;> (try simp [mk00, em]) <;> (try omega)
 ·simp only [↓sx0, sxE, encs, sevalprocAttr]
  repeat ((with_reducible refine Vc.go ?_ fun _ => ?_); (focus (first | omega | (simp only [InK]; omega) | (simp [InK] <;> omega))); simp only [↓sx0, sxE, encs, sevalprocAttr])
  refine ArrIx.go (by simp) ?_
  simp only [↓sx0, sxE, encs, sevalprocAttr]
  by_cases hln : W.length = 4
  ·refine BrW.no (by omega) ?_
   have c1 := number_R W[1] 7 (by decide) (by have := hWs _ (List.getElem_mem (show 1 < W.length by omega)); omega)
   obtain ⟨n1, o1, hn1⟩ : ∃ n o, nuR (wAt W 1) = (n, o) := ⟨_, _, rfl⟩
   rw [show numR W[1] 7 = (n1, o1) by rw [← hn1, hWg 1 (by omega)]; rfl] at c1
   have c2 := number_R W[2] 7 (by decide) (by have := hWs _ (List.getElem_mem (show 2 < W.length by omega)); omega)
   obtain ⟨n2, o2, hn2⟩ : ∃ n o, nuR (wAt W 2) = (n, o) := ⟨_, _, rfl⟩
   rw [show numR W[2] 7 = (n2, o2) by rw [← hn2, hWg 2 (by omega)]; rfl] at c2
   have c3 := number_R W[3] 7 (by decide) (by have := hWs _ (List.getElem_mem (show 3 < W.length by omega)); omega)
   obtain ⟨n3, o3, hn3⟩ : ∃ n o, nuR (wAt W 3) = (n, o) := ⟨_, _, rfl⟩
   rw [show numR W[3] 7 = (n3, o3) by rw [← hn3, hWg 3 (by omega)]; rfl] at c3
   simp only [↓sx0, sxE, encs, sevalprocAttr]
   refine ⟨by omega, eW W[1], (by rw [show (1 : Int).toNat = 1 from rfl, List.getElem?_map, List.getElem?_eq_getElem (by omega)]; rfl), ?_⟩
   simp only [↓sx0, sxE, encs, sevalprocAttr]
   refine CallI.fn (c1) (by simp only [sx3, encs, sxR, sevalprocAttr] <;> (try simp) <;> (try rfl)) ?_
   simp only [↓sx0, sxE, encs, sevalprocAttr]
   refine ⟨by omega, eW W[2], (by rw [show (2 : Int).toNat = 2 from rfl, List.getElem?_map, List.getElem?_eq_getElem (by omega)]; rfl), ?_⟩
   simp only [↓sx0, sxE, encs, sevalprocAttr]
   refine CallI.fn (c2) (by simp only [sx3, encs, sxR, sevalprocAttr] <;> (try simp) <;> (try rfl)) ?_
   simp only [↓sx0, sxE, encs, sevalprocAttr]
   cases o1
   ·have hof : okK nuR W 6 = false := by simp [okK, lenK, hln, hn1, hn2, hn3]
    rw [if_neg (by rintro ⟨_, q⟩; rw [hof] at q; cases q)] at hpr
    subst hpr
    simp only [↓sx0, sxE, encs, sevalprocAttr]
    refine EndW.fn ?_ ?_ <;> simp only [sx4, encs, kpLL_map, sxR, sevalprocAttr] <;> (try simp [mk00, em]) <;> (try omega)
   cases o2
   ·have hof : okK nuR W 6 = false := by simp [okK, lenK, hln, hn1, hn2, hn3]
    rw [if_neg (by rintro ⟨_, q⟩; rw [hof] at q; cases q)] at hpr
    subst hpr
    simp only [↓sx0, sxE, encs, sevalprocAttr]
    refine EndW.fn ?_ ?_ <;> simp only [sx4, encs, kpLL_map, sxR, sevalprocAttr] <;> (try simp [mk00, em]) <;> (try omega)
   simp only [↓sx0, sxE, encs, sevalprocAttr]
   refine ⟨by omega, eW W[3], (by rw [show (3 : Int).toNat = 3 from rfl, List.getElem?_map, List.getElem?_eq_getElem (by omega)]; rfl), ?_⟩
   simp only [↓sx0, sxE, encs, sevalprocAttr]
   refine CallI.fn (c3) (by simp only [sx3, encs, sxR, sevalprocAttr] <;> (try simp) <;> (try rfl)) ?_
   simp only [↓sx0, sxE, encs, sevalprocAttr]
   cases o3
   ·have hof : okK nuR W 6 = false := by simp [okK, lenK, hln, hn1, hn2, hn3]
    rw [if_neg (by rintro ⟨_, q⟩; rw [hof] at q; cases q)] at hpr
    subst hpr
    simp only [↓sx0, sxE, encs, sevalprocAttr]
    refine EndW.fn ?_ ?_ <;> simp only [sx4, encs, kpLL_map, sxR, sevalprocAttr] <;> (try simp [mk00, em]) <;> (try omega)
   have hok2 : okK nuR W 6 = true := by simp [okK, lenK, hln, hn1, hn2, hn3]
   rw [if_pos ⟨by omega, hok2⟩] at hpr
   obtain ⟨X, hX⟩ : ∃ X, X = mkK nuR W 6 := ⟨_, rfl⟩
   rw [← hX] at hpr
   have hsz : MkSz X := by
    have hs : ∀ i, (sAt W i).size ≤ 1000000000 := fun i => by
     unfold sAt; rw [bs_size]
     by_cases hi : i < W.length
     ·have := hWs _ (List.getElem_mem hi); rw [hWg i hi]; omega
     ·unfold wAt; rw [List.getElem?_eq_none (by omega)]; simp
    rw [hX]; exact ⟨by simp only [mkK]; split <;> first | exact hs _ | decide, by simp only [mkK]; (repeat' split) <;> first | exact hs _ | decide⟩
   have hcell : (X.mark = 6) ∧ X.part = n1 ∧ X.word = n2 ∧ X.old = em ∧ X.new = em ∧ X.was = 0 ∧ X.kind = n3 := by rw [hX]; simp [mkK, hn1, hn2, hn3, sAt]
   have encs := And.intro encs hcell
   simp only [↓sx0, sxE, encs, sevalprocAttr]
   refine CallI.fn (checkMarkR_s X hsz) (by simp only [sx3, encs, sxR, sevalprocAttr] <;> (try simp) <;> (try rfl)) ?_
   simp only [↓sx0, sxE, encs, sevalprocAttr]
   refine BrW.dec (fun he => ?_) (fun he => ?_)
   ·rw [if_neg he] at hpr
    subst hpr
    simp only [↓sx0, sxE, encs, sevalprocAttr]
    refine EndW.fn ?_ ?_ <;> simp only [sx4, encs, kpLL_map, sxR, sevalprocAttr] <;> (try simp [mk00, em]) <;> (try omega)
   ·rw [if_pos (Decidable.not_not.1 he)] at hpr
    subst hpr
    simp only [↓sx0, sxE, encs, sevalprocAttr]
    refine EndW.fn ?_ ?_ <;> simp only [sx4, encs, kpLL_map, sxR, sevalprocAttr] <;> (try simp) <;> (try omega)
  ·refine BrW.yes (by omega) ?_
   have hof : okK nuR W 6 = false := by simp [okK, lenK, hln]
   rw [if_neg (by rintro ⟨_, q⟩; rw [hof] at q; cases q)] at hpr
   subst hpr
   simp only [↓sx0, sxE, encs, sevalprocAttr]
   refine EndW.fn ?_ ?_ <;> simp only [sx4, encs, kpLL_map, sxR, sevalprocAttr] <;> (try simp [mk00, em]) <;> (try omega)
 ·simp only [↓sx0, sxE, encs, sevalprocAttr]
  repeat ((with_reducible refine Vc.go ?_ fun _ => ?_); (focus (first | omega | (simp only [InK]; omega) | (simp [InK] <;> omega))); simp only [↓sx0, sxE, encs, sevalprocAttr])
  refine ArrIx.go (by simp) ?_
  simp only [↓sx0, sxE, encs, sevalprocAttr]
  by_cases hln : W.length = 4
  ·refine BrW.no (by omega) ?_
   have c1 := number_R W[1] 7 (by decide) (by have := hWs _ (List.getElem_mem (show 1 < W.length by omega)); omega)
   obtain ⟨n1, o1, hn1⟩ : ∃ n o, nuR (wAt W 1) = (n, o) := ⟨_, _, rfl⟩
   rw [show numR W[1] 7 = (n1, o1) by rw [← hn1, hWg 1 (by omega)]; rfl] at c1
   have c2 := number_R W[2] 7 (by decide) (by have := hWs _ (List.getElem_mem (show 2 < W.length by omega)); omega)
   obtain ⟨n2, o2, hn2⟩ : ∃ n o, nuR (wAt W 2) = (n, o) := ⟨_, _, rfl⟩
   rw [show numR W[2] 7 = (n2, o2) by rw [← hn2, hWg 2 (by omega)]; rfl] at c2
   have c3 := number_R W[3] 7 (by decide) (by have := hWs _ (List.getElem_mem (show 3 < W.length by omega)); omega)
   obtain ⟨n3, o3, hn3⟩ : ∃ n o, nuR (wAt W 3) = (n, o) := ⟨_, _, rfl⟩
   rw [show numR W[3] 7 = (n3, o3) by rw [← hn3, hWg 3 (by omega)]; rfl] at c3
   simp only [↓sx0, sxE, encs, sevalprocAttr]
   refine ⟨by omega, eW W[1], (by rw [show (1 : Int).toNat = 1 from rfl, List.getElem?_map, List.getElem?_eq_getElem (by omega)]; rfl), ?_⟩
   simp only [↓sx0, sxE, encs, sevalprocAttr]
   refine CallI.fn (c1) (by simp only [sx3, encs, sxR, sevalprocAttr] <;> (try simp) <;> (try rfl)) ?_
   simp only [↓sx0, sxE, encs, sevalprocAttr]
   refine ⟨by omega, eW W[2], (by rw [show (2 : Int).toNat = 2 from rfl, List.getElem?_map, List.getElem?_eq_getElem (by omega)]; rfl), ?_⟩
   simp only [↓sx0, sxE, encs, sevalprocAttr]
   refine CallI.fn (c2) (by simp only [sx3, encs, sxR, sevalprocAttr] <;> (try simp) <;> (try rfl)) ?_
   simp only [↓sx0, sxE, encs, sevalprocAttr]
   cases o1
   ·have hof : okK nuR W 7 = false := by simp [okK, lenK, hln, hn1, hn2, hn3]
    rw [if_neg (by rintro ⟨_, q⟩; rw [hof] at q; cases q)] at hpr
    subst hpr
    simp only [↓sx0, sxE, encs, sevalprocAttr]
    refine EndW.fn ?_ ?_ <;> simp only [sx4, encs, kpLL_map, sxR, sevalprocAttr] <;> (try simp [mk00, em]) <;> (try omega)
   cases o2
   ·have hof : okK nuR W 7 = false := by simp [okK, lenK, hln, hn1, hn2, hn3]
    rw [if_neg (by rintro ⟨_, q⟩; rw [hof] at q; cases q)] at hpr
    subst hpr
    simp only [↓sx0, sxE, encs, sevalprocAttr]
    refine EndW.fn ?_ ?_ <;> simp only [sx4, encs, kpLL_map, sxR, sevalprocAttr] <;> (try simp [mk00, em]) <;> (try omega)
   simp only [↓sx0, sxE, encs, sevalprocAttr]
   refine ⟨by omega, eW W[3], (by rw [show (3 : Int).toNat = 3 from rfl, List.getElem?_map, List.getElem?_eq_getElem (by omega)]; rfl), ?_⟩
   simp only [↓sx0, sxE, encs, sevalprocAttr]
   refine CallI.fn (c3) (by simp only [sx3, encs, sxR, sevalprocAttr] <;> (try simp) <;> (try rfl)) ?_
   simp only [↓sx0, sxE, encs, sevalprocAttr]
   cases o3
   ·have hof : okK nuR W 7 = false := by simp [okK, lenK, hln, hn1, hn2, hn3]
    rw [if_neg (by rintro ⟨_, q⟩; rw [hof] at q; cases q)] at hpr
    subst hpr
    simp only [↓sx0, sxE, encs, sevalprocAttr]
    refine EndW.fn ?_ ?_ <;> simp only [sx4, encs, kpLL_map, sxR, sevalprocAttr] <;> (try simp [mk00, em]) <;> (try omega)
   have hok2 : okK nuR W 7 = true := by simp [okK, lenK, hln, hn1, hn2, hn3]
   rw [if_pos ⟨by omega, hok2⟩] at hpr
   obtain ⟨X, hX⟩ : ∃ X, X = mkK nuR W 7 := ⟨_, rfl⟩
   rw [← hX] at hpr
   have hsz : MkSz X := by
    have hs : ∀ i, (sAt W i).size ≤ 1000000000 := fun i => by
     unfold sAt; rw [bs_size]
     by_cases hi : i < W.length
     ·have := hWs _ (List.getElem_mem hi); rw [hWg i hi]; omega
     ·unfold wAt; rw [List.getElem?_eq_none (by omega)]; simp
    rw [hX]; exact ⟨by simp only [mkK]; split <;> first | exact hs _ | decide, by simp only [mkK]; (repeat' split) <;> first | exact hs _ | decide⟩
   have hcell : (X.mark = 7) ∧ X.part = n1 ∧ X.word = 0 ∧ X.old = em ∧ X.new = em ∧ X.was = n2 ∧ X.kind = n3 := by rw [hX]; simp [mkK, hn1, hn2, hn3, sAt]
   have encs := And.intro encs hcell
   simp only [↓sx0, sxE, encs, sevalprocAttr]
   refine CallI.fn (checkMarkR_s X hsz) (by simp only [sx3, encs, sxR, sevalprocAttr] <;> (try simp) <;> (try rfl)) ?_
   simp only [↓sx0, sxE, encs, sevalprocAttr]
   refine BrW.dec (fun he => ?_) (fun he => ?_)
   ·rw [if_neg he] at hpr
    subst hpr
    simp only [↓sx0, sxE, encs, sevalprocAttr]
    refine EndW.fn ?_ ?_ <;> simp only [sx4, encs, kpLL_map, sxR, sevalprocAttr] <;> (try simp [mk00, em]) <;> (try omega)
   ·rw [if_pos (Decidable.not_not.1 he)] at hpr
    subst hpr
    simp only [↓sx0, sxE, encs, sevalprocAttr]
    refine EndW.fn ?_ ?_ <;> simp only [sx4, encs, kpLL_map, sxR, sevalprocAttr] <;> (try simp) <;> (try omega)
  ·refine BrW.yes (by omega) ?_
   have hof : okK nuR W 7 = false := by simp [okK, lenK, hln]
   rw [if_neg (by rintro ⟨_, q⟩; rw [hof] at q; cases q)] at hpr
   subst hpr
   simp only [↓sx0, sxE, encs, sevalprocAttr]
   refine EndW.fn ?_ ?_ <;> simp only [sx4, encs, kpLL_map, sxR, sevalprocAttr] <;> (try simp [mk00, em]) <;> (try omega)
end Go.Proofs.YtmbemlmkfoblhaaGreatDoor
/-
 Chapter 8: both read alike; a right mark is read back.
-/
namespace Go.Proofs.YtmbemlmkfoblhaaGreatDoor
open Go Go.Vx Go.Lib
set_option maxRecDepth 20000
theorem okK_same (W : List (List UInt8)) (k : Nat) : okK nuP W k = okK nuR W k := by
 have hs : ∀ w, (nuP w).2 = (nuR w).2 := fun w => (num_same w 7 (by decide)).1
 simp only [okK, hs]
theorem mkK_same {W : List (List UInt8)} {k : Nat} (h : okK nuR W k = true) : mkK nuP W k = mkK nuR W k := by
 have hs : ∀ w, (nuR w).2 = true → (nuP w).1 = (nuR w).1 := fun w => (num_same w 7 (by decide)).2
 simp only [okK, Bool.and_eq_true, decide_eq_true_eq] at h
 obtain ⟨⟨⟨h1, h2⟩, h3⟩, h4⟩ := h
 by_cases hk : k = 5 ∨ k = 6 ∨ k = 7
 ·rw [if_pos hk] at h4
  simp only [mkK, hs _ h2, hs _ h3, hs _ h4]
 ·simp only [mkK, hs _ h2, hs _ h3, if_neg hk]
theorem prsM_same (l : List UInt8) : prsM nuP l = prsM nuR l := by
 unfold prsM
 by_cases h10 : (10 : UInt8) ∈ l
 ·rw [if_pos h10, if_pos h10]
 rw [if_neg h10, if_neg h10, okK_same]
 by_cases hk : 1 ≤ kOf (wAt (cutL 32 [] l) 0) ∧ okK nuR (cutL 32 [] l) (kOf (wAt (cutL 32 [] l) 0)) = true
 ·rw [if_pos hk, if_pos hk, mkK_same hk.2]
 ·rw [if_neg hk, if_neg hk]
theorem itoa_nat {n : Int} (h : 0 ≤ n) : itoa n = decDigits n.toNat := by rw [itoa, if_neg (by omega)]
theorem nuR_itoa {n : Int} (h : 0 ≤ n ∧ n ≤ 9999999) : nuR (itoa n) = (n, true) ∧ ∀ c ∈ itoa n, 48 ≤ c.toNat := by
 rw [itoa_nat h.1]
 have ha := dec_all n.toNat
 have hne := dec_ne n.toNat
 have hv := dec_val n.toNat
 have hl := dec_len 6 n.toNat (by omega)
 have hd : ∀ c ∈ decDigits n.toNat, 48 ≤ c.toNat ∧ c.toNat ≤ 57 := fun c hc => by
  have := List.all_eq_true.1 ha c hc
  simpa [dgB] using this
 have h0 : ¬ ((decDigits n.toNat).head? = some 48 ∧ 1 < (decDigits n.toNat).length) := fun ⟨e1, e2⟩ => by
  by_cases hz : n.toNat = 0
  ·rw [hz, decDigits, dif_pos (by omega)] at e2; simp at e2
  ·obtain ⟨c, r, e3, e4⟩ := dec_head n.toNat (by omega)
   rw [e3] at e1
   simp only [List.head?_cons, Option.some.injEq] at e1
   rw [e1] at e4; exact e4 rfl
 have h45 : (decDigits n.toNat).head? ≠ some 45 := fun e => by
  cases hq : decDigits n.toNat with
  | nil => rw [hq] at e; cases e
  | cons c r =>
   rw [hq] at e
   simp only [List.head?_cons, Option.some.injEq] at e
   have := hd c (by rw [hq]; simp)
   rw [e] at this
   exact absurd this.1 (by decide)
 refine ⟨?_, fun c hc => (hd c hc).1⟩
 unfold nuR numR
 rw [if_neg h45, if_neg (fun h => by
  rcases h with h | h | h
  ·exact hne h
  ·omega
  ·exact h0 h), if_pos ha, hv]
 simp only [Prod.mk.injEq, and_true]; omega
/-- bytes that part nothing. -/
def Cln (w : List UInt8) : Prop := ∀ c ∈ w, 33 ≤ c.toNat
theorem itoa_cln {n : Int} (h : 0 ≤ n ∧ n ≤ 9999999) : Cln (itoa n) := fun c hc => by have := (nuR_itoa h).2 c hc; omega
theorem nmB_cln (k : Nat) : Cln (nmB k).data.toList := by
 unfold nmB Cln
 split <;> decide
theorem isWd_cln {s : ByteArray} (h : isWd s = true) : Cln s.data.toList := fun c hc => by
 simp only [isWd, Bool.and_eq_true, bytesOk, List.all_eq_true] at h
 have := h.1 c hc
 simp only [okB, Bool.and_eq_true, decide_eq_true_eq] at this
 omega
theorem cut_mk {m : Mk} (hc : ∀ w ∈ mkW m, Cln w) (hne : mkW m ≠ []) : cutL 32 [] (mkT m) = mkW m ∧ ¬ (10 : UInt8) ∈ mkT m := by
 refine ⟨cut_join _ hne fun w hw h => absurd (hc w hw 32 h) (by decide), ?_⟩
 unfold mkT
 generalize mkW m = W at hc
 clear hne
 have : ∀ (W : List (List UInt8)), (∀ w ∈ W, Cln w) → ∀ c ∈ Lib.join W [32], 32 ≤ c.toNat := by
  intro W
  induction W with
  | nil => intro _ c hc; simp [Lib.join] at hc
  | cons w W ih =>
   intro h c hc
   cases W with
   | nil =>
    rw [Lib.join_one] at hc
    have := h w (by simp) c hc; omega
   | cons v r =>
    have hj : Lib.join (w :: v :: r) [32] = w ++ 32 :: Lib.join (v :: r) [32] := by
     rw [Lib.join_cons, Lib.join_cons]; simp [Lib.joinTail]
    rw [hj, List.mem_append, List.mem_cons] at hc
    rcases hc with hc | rfl | hc
    ·have := h w (by simp) c hc; omega
    ·decide
    ·exact ih (fun x hx => h x (List.mem_cons_of_mem _ hx)) c hc
 intro h
 exact absurd (this W hc 10 h) (by decide)
theorem mk_back {m : Mk} (h : mkErr m = 0) : prsM nuR (mkT m) = (m, 0) := by
 have hh := h
 obtain ⟨mark, part, word, old, new, was, kind⟩ := m
 unfold mkErr at h
 simp only at h
 split at h
 ·rename_i hm
  split at h
  ·rename_i hr
   split at h
   ·rename_i hw
    obtain ⟨hw, hp, h7⟩ := hw
    simp only [inR, Bool.and_eq_true, decide_eq_true_eq] at hr
    obtain ⟨hr1, hr2⟩ := hr
    have np := (nuR_itoa (n := part) ⟨by omega, by omega⟩).1
    have nw := (nuR_itoa (n := word) ⟨by omega, by omega⟩).1
    have cp := itoa_cln (n := part) ⟨by omega, by omega⟩
    have cw := itoa_cln (n := word) ⟨by omega, by omega⟩
    have hc : mark = 1 ∨ mark = 2 ∨ mark = 3 ∨ mark = 4 ∨ mark = 5 ∨ mark = 6 ∨ mark = 7 := by omega
    have fin : ∀ (k : Nat) (W : List (List UInt8)), 1 ≤ k ∧ k ≤ 7 → mkW ⟨mark, part, word, old, new, was, kind⟩ = W → W ≠ [] → (∀ w ∈ W, Cln w) → wAt W 0 = (nmB k).data.toList → okK nuR W k = true → mkK nuR W k = ⟨mark, part, word, old, new, was, kind⟩ → prsM nuR (mkT ⟨mark, part, word, old, new, was, kind⟩) = (⟨mark, part, word, old, new, was, kind⟩, 0) := by
     intro k W hk e hne hcl hw0 hok hmk
     obtain ⟨c1, c2⟩ := cut_mk (m := ⟨mark, part, word, old, new, was, kind⟩) (by rw [e]; exact hcl) (by rw [e]; exact hne)
     unfold prsM
     rw [if_neg c2, c1, e, hw0, kOf_is hk, if_pos ⟨hk.1, hok⟩, hmk, if_pos hh]
    rcases hc with rfl | rfl | rfl | rfl | rfl | rfl | rfl
    ·simp [wantB] at hw
     obtain ⟨w1, rfl, rfl, rfl⟩ := hw
     refine fin 1 [(nmB 1).data.toList, itoa part, itoa word, old.data.toList] (by omega) rfl (by simp) ?_ rfl ?_ ?_
     ·intro w hw
      simp only [List.mem_cons, List.not_mem_nil, or_false] at hw
      rcases hw with rfl | rfl | rfl | rfl
      ·exact nmB_cln 1
      ·exact cp
      ·exact cw
      ·exact isWd_cln w1
     ·simp [okK, lenK, wAt, np, nw]
     ·simp [mkK, wAt, sAt, np, nw, bs_data]
    ·simp [wantB] at hw
     obtain ⟨w1, rfl, rfl, rfl⟩ := hw
     refine fin 2 [(nmB 2).data.toList, itoa part, itoa word, new.data.toList] (by omega) rfl (by simp) ?_ rfl ?_ ?_
     ·intro w hw
      simp only [List.mem_cons, List.not_mem_nil, or_false] at hw
      rcases hw with rfl | rfl | rfl | rfl
      ·exact nmB_cln 2
      ·exact cp
      ·exact cw
      ·exact isWd_cln w1
     ·simp [okK, lenK, wAt, np, nw]
     ·simp [mkK, wAt, sAt, np, nw, bs_data]
    ·simp [wantB] at hw
     obtain ⟨⟨⟨w1, w2⟩, w3⟩, rfl, rfl⟩ := hw
     refine fin 3 [(nmB 3).data.toList, itoa part, itoa word, old.data.toList, new.data.toList] (by omega) rfl (by simp) ?_ rfl ?_ ?_
     ·intro w hw
      simp only [List.mem_cons, List.not_mem_nil, or_false] at hw
      rcases hw with rfl | rfl | rfl | rfl | rfl
      ·exact nmB_cln 3
      ·exact cp
      ·exact cw
      ·exact isWd_cln w1
      ·exact isWd_cln w2
     ·simp [okK, lenK, wAt, np, nw]
     ·simp [mkK, wAt, sAt, np, nw, bs_data]
    ·simp [wantB] at hw
     obtain ⟨rfl, rfl, rfl, rfl⟩ := hw
     refine fin 4 [(nmB 4).data.toList, itoa part, itoa word] (by omega) rfl (by simp) ?_ rfl ?_ ?_
     ·intro w hw
      simp only [List.mem_cons, List.not_mem_nil, or_false] at hw
      rcases hw with rfl | rfl | rfl
      ·exact nmB_cln 4
      ·exact cp
      ·exact cw
     ·simp [okK, lenK, wAt, np, nw]
     ·simp [mkK, wAt, sAt, np, nw, bs_data]
    ·simp [wantB] at hw
     obtain ⟨w1, rfl, rfl, rfl⟩ := hw
     have nk := (nuR_itoa (n := kind) ⟨by omega, by omega⟩).1
     refine fin 5 [(nmB 5).data.toList, itoa part, itoa word, itoa kind] (by omega) rfl (by simp) ?_ rfl ?_ ?_
     ·intro w hw
      simp only [List.mem_cons, List.not_mem_nil, or_false] at hw
      rcases hw with rfl | rfl | rfl | rfl
      ·exact nmB_cln 5
      ·exact cp
      ·exact cw
      ·exact itoa_cln ⟨by omega, by omega⟩
     ·simp [okK, lenK, wAt, np, nw, nk]
     ·simp [mkK, wAt, sAt, np, nw, nk, bs_data]
    ·simp [wantB] at hw
     obtain ⟨w1, rfl, rfl, rfl⟩ := hw
     have nk := (nuR_itoa (n := kind) ⟨by omega, by omega⟩).1
     refine fin 6 [(nmB 6).data.toList, itoa part, itoa word, itoa kind] (by omega) rfl (by simp) ?_ rfl ?_ ?_
     ·intro w hw
      simp only [List.mem_cons, List.not_mem_nil, or_false] at hw
      rcases hw with rfl | rfl | rfl | rfl
      ·exact nmB_cln 6
      ·exact cp
      ·exact cw
      ·exact itoa_cln ⟨by omega, by omega⟩
     ·simp [okK, lenK, wAt, np, nw, nk]
     ·simp [mkK, wAt, sAt, np, nw, nk, bs_data]
    ·simp [wantB] at hw
     obtain ⟨⟨⟨w1, w2⟩, w3⟩, rfl, rfl⟩ := hw
     have nk := (nuR_itoa (n := kind) ⟨by omega, by omega⟩).1
     have na := (nuR_itoa (n := was) ⟨by omega, by omega⟩).1
     have hz : word = 0 := Decidable.byContradiction fun h => h7 ⟨rfl, h⟩
     subst hz
     refine fin 7 [(nmB 7).data.toList, itoa part, itoa was, itoa kind] (by omega) rfl (by simp) ?_ rfl ?_ ?_
     ·intro w hw
      simp only [List.mem_cons, List.not_mem_nil, or_false] at hw
      rcases hw with rfl | rfl | rfl | rfl
      ·exact nmB_cln 7
      ·exact cp
      ·exact itoa_cln ⟨by omega, by omega⟩
      ·exact itoa_cln ⟨by omega, by omega⟩
     ·simp [okK, lenK, wAt, np, na, nk]
     ·simp [mkK, wAt, sAt, np, na, nk, bs_data]
   ·cases h
  ·cases h
 ·cases h
end Go.Proofs.YtmbemlmkfoblhaaGreatDoor
/-
 Chapter 8, walks: both marks in the other order, if they are right.
-/
namespace Go.Proofs.YtmbemlmkfoblhaaGreatDoor
open Go Go.Vx
set_option maxRecDepth 20000
def swE (a b : Mk) : (Mk × Mk) × Int := if mkErr a = 0 then (if mkErr b = 0 then swapF (orderP a b) else ((mk0, mk0), mkErr b)) else ((mk0, mk0), mkErr a)
theorem mk_ok {m : Mk} (h : mkErr m = 0) : (1 ≤ m.mark ∧ m.mark ≤ 7) ∧ inR m = true ∧ wantB m.mark m.old m.new m.was m.kind = true ∧ bdE m = 0 := by
 unfold mkErr at h
 split at h
 ·rename_i h1
  split at h
  ·rename_i h2
   split at h
   ·rename_i h3
    exact ⟨h1, h2, h3.1, by rw [bdE, if_neg (fun h => h.elim h3.2.1 h3.2.2)]⟩
   ·omega
  ·omega
 ·omega
theorem brief_s (m : Mk) : Ctr Tryz.prog 6 [mV m] (fun rr => rr = ⟨(.v (.bool (decide (m.old.size ≤ 40 ∧ m.new.size ≤ 40)))), []⟩) := by
 refine Ctr.of (rs := [.tmp 2]) Tok true Tryz.func6 rfl rfl rfl rfl (by simp [ofDL]) (fun w0 kp => ?_)
 simp only [↓sx0, xE, sevalprocAttr]
 refine BrW.dec (fun h => ?_) (fun h => ?_)
 ·rw [show decide (m.old.size ≤ 40 ∧ m.new.size ≤ 40) = decide ((m.new.size : Int) ≤ 40) by rw [decide_eq_decide]; omega]
  simp only [↓sx0, xE, sevalprocAttr]
  refine EndW.fn ?_ ?_ <;> simp only [sx4, xK, sevalprocAttr] <;> (try simp) <;> (try omega)
 ·rw [show decide (m.old.size ≤ 40 ∧ m.new.size ≤ 40) = false by rw [decide_eq_false_iff_not]; omega]
  simp only [↓sx0, xE, sevalprocAttr]
  refine EndW.fn ?_ ?_ <;> simp only [sx4, xK, sevalprocAttr] <;> (try simp) <;> (try omega)
end Go.Proofs.YtmbemlmkfoblhaaGreatDoor
/-
 Chapter 8, walks: pairs that are kept (the table).
-/
namespace Go.Proofs.YtmbemlmkfoblhaaGreatDoor
open Go Go.Vx
set_option maxRecDepth 20000
/-- the pairs that two lists have at most. -/
def lcsA (x : Int) (f : List Int → Nat) : List Int → Nat
 | [] => 0
 | y :: b => if x = y then max (max (f (y :: b)) (lcsA x f b)) (f b + 1) else max (f (y :: b)) (lcsA x f b)
def lcsL : List Int → List Int → Nat
 | [], _ => 0
 | x :: a, b => lcsA x (lcsL a) b
theorem lcsL_nil (a : List Int) : lcsL a [] = 0 := by cases a <;> simp [lcsL, lcsA]
theorem lcsL_cons (x y : Int) (a b : List Int) : lcsL (x :: a) (y :: b) = if x = y then max (max (lcsL a (y :: b)) (lcsL (x :: a) b)) (lcsL a b + 1) else max (lcsL a (y :: b)) (lcsL (x :: a) b) := rfl
theorem lcsL_le (a : List Int) : ∀ b, lcsL a b ≤ a.length := by
 induction a with
 | nil => intro b; simp [lcsL]
 | cons x a ih =>
  intro b
  induction b with
  | nil => simp [lcsL_nil]
  | cons y b ihb =>
   rw [lcsL_cons]
   have h1 := ih (y :: b)
   have h2 := ih b
   simp only [List.length_cons] at ihb ⊢
   split <;> omega
def tl (a b : List Int) (i j : Nat) : Int := (lcsL (a.drop i) (b.drop j) : Nat)
theorem tl_end1 {a b : List Int} (j : Nat) : tl a b a.length j = 0 := by simp [tl, lcsL]
theorem tl_end2 {a b : List Int} (i : Nat) : tl a b i b.length = 0 := by simp [tl, lcsL_nil]
theorem tl_step {a b : List Int} {i j : Nat} (hi : i < a.length) (hj : j < b.length) : tl a b i j = if a[i] = b[j] then max (max (tl a b (i + 1) j) (tl a b i (j + 1))) (tl a b (i + 1) (j + 1) + 1) else max (tl a b (i + 1) j) (tl a b i (j + 1)) := by
 simp only [tl]
 rw [List.drop_eq_getElem_cons hi, List.drop_eq_getElem_cons hj, lcsL_cons]
 split <;> omega
theorem tl_b (a b : List Int) (i j : Nat) : 0 ≤ tl a b i j ∧ tl a b i j ≤ a.length := by
 have := lcsL_le (a.drop i) (b.drop j)
 simp only [List.length_drop] at this
 unfold tl; omega
/-- a row of the table -/
def rowT (a b : List Int) (i : Nat) : List Int := (List.range (b.length + 1)).map fun j => tl a b i j
/-- under way, from the end on; 'v' at place j. -/
def cT (a b : List Int) (i j : Nat) : List Int := (List.range (b.length + 1)).map fun k => if j ≤ k then tl a b i k else 0
def cV (a b : List Int) (i j : Nat) (v : Int) : List Int := (List.range (b.length + 1)).map fun k => if j < k then tl a b i k else if k = j then v else 0
theorem cT_zero (a b : List Int) (i : Nat) : cT a b i 0 = rowT a b i := by simp [cT, rowT]
theorem cT_end (a b : List Int) (i : Nat) : cT a b i b.length = List.replicate (b.length + 1) 0 := by
 apply List.ext_getElem
 ·simp [cT]
 ·intro k h1 h2
  simp only [cT, List.length_map, List.length_range] at h1
  simp only [cT, List.getElem_map, List.getElem_range, List.getElem_replicate]
  split
  ·rw [show k = b.length by omega, tl_end2]
  ·rfl
theorem cT_last (a b : List Int) : rowT a b a.length = List.replicate (b.length + 1) 0 := by
 apply List.ext_getElem
 ·simp [rowT]
 ·intro k h1 h2
  simp [rowT, tl_end1]
theorem cT_put (a b : List Int) (i j : Nat) (v : Int) : ((cT a b i (j + 1)).map eI).modify j (modE · 0 [.v (.int .i64 v)]) = (cV a b i j v).map eI := by
 apply List.ext_getElem
 ·simp [cT, cV]
 ·intro k h1 h2
  simp only [List.getElem_modify, List.getElem_map, cT, cV, List.getElem_range]
  by_cases hk : j = k
  ·subst hk; simp [modE, eI]
  ·rw [if_neg hk]
   by_cases h3 : j < k
   ·rw [if_pos (show j + 1 ≤ k by omega), if_pos h3]
   ·rw [if_neg (show ¬ j + 1 ≤ k by omega), if_neg h3, if_neg (show ¬ k = j by omega)]
theorem cV_put (a b : List Int) (i j : Nat) (u v : Int) : ((cV a b i j u).map eI).modify j (modE · 0 [.v (.int .i64 v)]) = (cV a b i j v).map eI := by
 apply List.ext_getElem
 ·simp [cV]
 ·intro k h1 h2
  simp only [List.getElem_modify, List.getElem_map, cV, List.getElem_range]
  by_cases hk : j = k
  ·subst hk; simp [modE, eI]
  ·rw [if_neg hk]
   by_cases h3 : j < k
   ·rw [if_pos h3, if_pos h3]
   ·rw [if_neg h3, if_neg h3, if_neg (show ¬ k = j by omega), if_neg (show ¬ k = j by omega)]
theorem cV_tl (a b : List Int) (i j : Nat) : cV a b i j (tl a b i j) = cT a b i j := by
 unfold cV cT
 apply List.map_congr_left
 intro k _
 by_cases h : j < k
 ·rw [if_pos h, if_pos (by omega)]
 ·rw [if_neg h]
  by_cases h2 : k = j
  ·subst h2; simp
  ·rw [if_neg h2, if_neg (by omega)]
theorem cT_get (a b : List Int) (i j k : Nat) (h : k < b.length + 1) (h2 : j ≤ k) : ((cT a b i j).map eI)[k]? = some (eI (tl a b i k)) := by
 rw [List.getElem?_map]
 simp [cT, List.getElem?_map, List.getElem?_range, h, h2]
theorem cV_get (a b : List Int) (i j : Nat) (v : Int) (h : j < b.length + 1) : ((cV a b i j v).map eI)[j]? = some (eI v) := by
 rw [List.getElem?_map]
 simp [cV, List.getElem?_map, List.getElem?_range, h]
theorem rowT_get (a b : List Int) (i k : Nat) (h : k < b.length + 1) : ((rowT a b i).map eI)[k]? = some (eI (tl a b i k)) := by
 rw [List.getElem?_map]
 simp [rowT, List.getElem?_map, List.getElem?_range, h]
/-- the table, with 'x' rows still to come. -/
def tabT (a b : List Int) (x : Nat) : List (List D) := (List.range (a.length + 1)).map fun r => if x ≤ r then [.sl true 1 ((rowT a b r).map eI)] else [.v (.slice none 0 0)]
theorem tabT_get {a b : List Int} {x r : Nat} (h : r < a.length + 1) : (tabT a b x)[r]? = some (if x ≤ r then [.sl true 1 ((rowT a b r).map eI)] else [.v (.slice none 0 0)]) := by
 simp [tabT, List.getElem?_map, List.getElem?_range, h]
theorem tabT_first (a b : List Int) : (List.replicate (a.length + 1) [D.v (.slice none 0 0)]).modify a.length (modE · 0 [.sl true 1 (List.replicate (b.length + 1) [.v (.int .i64 0)])]) = tabT a b a.length := by
 apply List.ext_getElem
 ·simp [tabT]
 ·intro k h1 h2
  simp only [List.getElem_modify, List.getElem_replicate, tabT, List.getElem_map, List.getElem_range]
  have hk : k < a.length + 1 := by simpa [tabT] using h2
  by_cases e : a.length = k
  ·subst e; simp [modE, cT_last, eI]
  ·rw [if_neg e, if_neg (by omega)]
theorem tabT_close {a b : List Int} {x : Nat} (hx : x < a.length) (y : List D) : (((tabT a b (x + 1)).modify x (modE · 0 y)).set x [.sl true 1 ((rowT a b x).map eI)]) = tabT a b x := by
 apply List.ext_getElem
 ·simp [tabT]
 ·intro k h1 h2
  simp only [List.getElem_set, List.getElem_modify, tabT, List.getElem_map, List.getElem_range]
  by_cases e : x = k
  ·subst e; simp
  ·rw [if_neg e, if_neg e]
   by_cases h3 : x + 1 ≤ k
   ·rw [if_pos h3, if_pos (by omega)]
   ·rw [if_neg h3, if_neg (by omega)]
set_option maxHeartbeats 8000000 in
theorem tails_s (b1 b2 : Bool) (a b : List Int) (ha : a.length ≤ 1000) (hb : b.length ≤ 1000) : Ctr Tryz.prog 54 [.sl b1 1 (a.map eI), .sl b2 1 (b.map eI)] (fun rr => rr = ⟨.sl true 1 (tabT a b 0), []⟩) := by
 refine Ctr.of (rs := [.tmp 4]) Tok true Tryz.func54 rfl rfl rfl rfl (by simp [ofDL]) (fun w0 kp => ?_)
 simp only [↓sx0, xE, sevalprocAttr]
 repeat ((with_reducible refine Vc.go ?_ fun _ => ?_); (focus (first | omega | (simp only [InK]; omega) | (simp [InK] <;> omega))); simp only [↓sx0, xE, sevalprocAttr])
 have e1 : ((a.length : Int) + 1).toNat = a.length + 1 := by omega
 have e2 : ((b.length : Int) + 1).toNat = b.length + 1 := by omega
 simp only [e1, e2, Int.toNat_natCast, tabT_first]
 refine LoopW.le StLe.arm ?_
 refine LoopW.comp [0, 1, 5, 6, 1000000, 2000000] (by simp only [sx2, xR, sevalprocAttr] <;> (try simp) <;> (try omega)) ?_
 simp only [sx2, sxR, sevalprocAttr]
 refine LoopW.up Tok (fun x : Nat => [(6, (.v (.int .i64 ((x : Int) - 1))))]) (fun x => []) (fun x => [(0, tabT a b x)]) (fun x => []) (fun x => x ≤ a.length) (fun x => x) (a.length) (by simp only [sx2, xR, sevalprocAttr] <;> (try simp) <;> (try omega)) ?_ ?_
 ·omega
 rintro x hx
 simp only [↓sx0, xE, sevalprocAttr]
 refine BrW.dec (fun hlt => ?_) (fun hlt => ?_)
 ·simp only [↓sx0, xE, sevalprocAttr]
  obtain ⟨i, rfl⟩ : ∃ i, x = i + 1 := ⟨x - 1, by omega⟩
  have e3 : (((i + 1 : Nat) : Int) - 1) = (i : Int) := by omega
  rw [e3]
  have hia : i < a.length := by omega
  have htl : (tabT a b (i + 1)).length = a.length + 1 := by simp [tabT]
  repeat ((with_reducible refine Vc.go ?_ fun _ => ?_); (focus (first | omega | (simp only [InK]; omega) | (simp [InK] <;> omega))); simp only [↓sx0, xE, sevalprocAttr])
  intro ad n0 c0
  repeat ((with_reducible refine Vc.go ?_ fun _ => ?_); (focus (first | omega | (simp only [InK]; omega) | (simp [InK] <;> omega))); simp only [↓sx0, xE, sevalprocAttr])
  have er : List.replicate ((b.length : Int) + 1).toNat [D.v (.int .i64 0)] = (cT a b i b.length).map eI := by rw [e2, cT_end]; simp [eI]
  rw [er, Int.toNat_natCast]
  have hE0 : ((tabT a b (i + 1)).modify i fun x => modE x 0 [D.v (.slice (some ad) n0 c0)])[i]? = some [D.v (.slice (some ad) n0 c0)] := by
   rw [List.getElem?_modify, tabT_get (by omega), if_neg (by omega)]; simp [modE]
  have hE1 : ((tabT a b (i + 1)).modify i fun x => modE x 0 [D.v (.slice (some ad) n0 c0)])[i + 1]? = some [D.sl true 1 ((rowT a b (i + 1)).map eI)] := by
   rw [List.getElem?_modify, tabT_get (by omega)]; simp
  have hEl : ((tabT a b (i + 1)).modify i fun x => modE x 0 [D.v (.slice (some ad) n0 c0)]).length = a.length + 1 := by simp [tabT]
  have hEc := tabT_close (a := a) (b := b) hia [D.v (.slice (some ad) n0 c0)]
  generalize ((tabT a b (i + 1)).modify i fun x => modE x 0 [D.v (.slice (some ad) n0 c0)]) = E at hE0 hE1 hEl hEc ⊢
  refine LoopW.comp [0, 1, 5, 6, 7, 1000000, 2000000] (by simp only [sx2, xR, sevalprocAttr] <;> (try simp) <;> (try omega)) ?_
  simp only [sx2, sxR, sevalprocAttr]
  refine LoopW.up Tok (fun j : Nat => [(7, (.v (.int .i64 ((j : Int) - 1))))]) (fun j => []) (fun j => [(1, (cT a b i j).map eI)]) (fun j => []) (fun j => j ≤ b.length) (fun j => j) (b.length) (by simp only [sx2, xR, sevalprocAttr] <;> (try simp) <;> (try omega)) ?_ ?_
  ·omega
  rintro j hj
  simp only [↓sx0, xE, sevalprocAttr]
  refine BrW.dec (fun hlt2 => ?_) (fun hlt2 => ?_)
  ·simp only [↓sx0, xE, sevalprocAttr]
   obtain ⟨q, rfl⟩ : ∃ q, j = q + 1 := ⟨j - 1, by omega⟩
   have e4 : (((q + 1 : Nat) : Int) - 1) = (q : Int) := by omega
   rw [e4]
   have hqb : q < b.length := by omega
   refine DrawW.plan Tok mixed (.q 0 <| .q 1 <| .q 2 <| .q 3 <| .q 4 <| .q 5 <| .q 6 <| .q 7 <| .q 8 <| .q 9 <| .q 10 <| .q 11 <| .q 12 <| .q 13 <| .q 14 <| .q 15 <| .q 16 <| .q 17 <| .q 18 <| .q 19 <| .q 20 <| .q 21 <| .q 22 <| .e 23 [] <| .done) (by kernel_rfl) (by kernel_rfl) ?_
   simp only [↓sx0, xE, sevalprocAttr]
   repeat ((with_reducible refine Vc.go ?_ fun _ => ?_); (focus (first | omega | (simp only [InK]; omega) | (simp [cT, cV, InK] <;> omega))); simp only [↓sx0, xE, sevalprocAttr])
   refine ⟨by omega, _, (by rw [Int.toNat_natCast]; exact hE0), ?_⟩
   simp only [↓sx0, xE, sevalprocAttr]
   repeat ((with_reducible refine Vc.go ?_ fun _ => ?_); (focus (first | omega | (simp only [InK]; omega) | (simp [cT, cV, InK] <;> omega))); simp only [↓sx0, xE, sevalprocAttr])
   refine ⟨by omega, _, (by rw [show ((i : Int) + 1).toNat = i + 1 by omega]; exact hE1), ?_⟩
   simp only [↓sx0, xE, sevalprocAttr]
   refine ⟨by omega, _, (by rw [Int.toNat_natCast]; exact rowT_get a b (i + 1) q (by omega)), ?_⟩
   simp only [↓sx0, xE, sevalprocAttr]
   repeat ((with_reducible refine Vc.go ?_ fun _ => ?_); (focus (first | omega | (simp only [InK]; omega) | (simp [cT, cV, InK] <;> omega))); simp only [↓sx0, xE, sevalprocAttr])
   refine ⟨by omega, _, (by rw [Int.toNat_natCast]; exact hE0), ?_⟩
   simp only [↓sx0, xE, sevalprocAttr]
   repeat ((with_reducible refine Vc.go ?_ fun _ => ?_); (focus (first | omega | (simp only [InK]; omega) | (simp [cT, cV, InK] <;> omega))); simp only [↓sx0, xE, sevalprocAttr])
   refine ⟨by omega, _, (by rw [show ((q : Int) + 1).toNat = q + 1 by omega]; exact cT_get a b i (q + 1) (q + 1) (by omega) (by omega)), ?_⟩
   simp only [↓sx0, xE, sevalprocAttr]
   repeat ((with_reducible refine Vc.go ?_ fun _ => ?_); (focus (first | omega | (simp only [InK]; omega) | (simp [cT, cV, InK] <;> omega))); simp only [↓sx0, xE, sevalprocAttr])
   rw [Int.toNat_natCast, cT_put]
   have hst := tl_step hia hqb
   have hb1 := tl_b a b (i + 1) (q + 1)
   refine DrawW.plan Tok mixed (.q 0 <| .q 1 <| .q 2 <| .q 3 <| .q 4 <| .q 5 <| .q 6 <| .q 7 <| .q 8 <| .done) (by kernel_rfl) (by kernel_rfl) ?_
   simp only [↓sx0, xE, sevalprocAttr]
   refine IxW.nat hia ?_
   simp only [↓sx0, xE, sevalprocAttr]
   refine IxW.nat hqb ?_
   simp only [↓sx0, xE, sevalprocAttr]
   refine BrW.dec (fun heq => ?_) (fun heq => ?_)
   ·rw [if_pos heq] at hst
    simp only [↓sx0, xE, sevalprocAttr]
    refine DrawW.plan Tok mixed (.q 0 <| .q 1 <| .q 2 <| .q 3 <| .q 4 <| .q 5 <| .q 6 <| .q 7 <| .q 8 <| .q 9 <| .q 10 <| .q 11 <| .q 12 <| .q 13 <| .q 14 <| .q 15 <| .q 16 <| .q 17 <| .q 18 <| .q 19 <| .q 20 <| .q 21 <| .q 22 <| .q 23 <| .e 24 [] <| .done) (by kernel_rfl) (by kernel_rfl) ?_
    simp only [↓sx0, xE, sevalprocAttr]
    repeat ((with_reducible refine Vc.go ?_ fun _ => ?_); (focus (first | omega | (simp only [InK]; omega) | (simp [cT, cV, InK] <;> omega))); simp only [↓sx0, xE, sevalprocAttr])
    refine ⟨by omega, _, (by rw [Int.toNat_natCast]; exact hE0), ?_⟩
    simp only [↓sx0, xE, sevalprocAttr]
    repeat ((with_reducible refine Vc.go ?_ fun _ => ?_); (focus (first | omega | (simp only [InK]; omega) | (simp [cT, cV, InK] <;> omega))); simp only [↓sx0, xE, sevalprocAttr])
    refine ⟨by omega, _, (by rw [Int.toNat_natCast]; exact hE0), ?_⟩
    simp only [↓sx0, xE, sevalprocAttr]
    repeat ((with_reducible refine Vc.go ?_ fun _ => ?_); (focus (first | omega | (simp only [InK]; omega) | (simp [cT, cV, InK] <;> omega))); simp only [↓sx0, xE, sevalprocAttr])
    refine ⟨by omega, _, (by rw [Int.toNat_natCast]; exact cV_get a b i q _ (by omega)), ?_⟩
    simp only [↓sx0, xE, sevalprocAttr]
    repeat ((with_reducible refine Vc.go ?_ fun _ => ?_); (focus (first | omega | (simp only [InK]; omega) | (simp [cT, cV, InK] <;> omega))); simp only [↓sx0, xE, sevalprocAttr])
    refine ⟨by omega, _, (by rw [show ((i : Int) + 1).toNat = i + 1 by omega]; exact hE1), ?_⟩
    simp only [↓sx0, xE, sevalprocAttr]
    repeat ((with_reducible refine Vc.go ?_ fun _ => ?_); (focus (first | omega | (simp only [InK]; omega) | (simp [cT, cV, InK] <;> omega))); simp only [↓sx0, xE, sevalprocAttr])
    refine ⟨by omega, _, (by rw [show ((q : Int) + 1).toNat = q + 1 by omega]; exact rowT_get a b (i + 1) (q + 1) (by omega)), ?_⟩
    simp only [↓sx0, xE, sevalprocAttr]
    repeat ((with_reducible refine Vc.go ?_ fun _ => ?_); (focus (first | omega | (simp only [InK]; omega) | (simp [cT, cV, InK] <;> omega))); simp only [↓sx0, xE, sevalprocAttr])
    rw [Int.toNat_natCast, cV_put, ← hst, cV_tl]
    repeat ((with_reducible refine Vc.go ?_ fun _ => ?_); (focus (first | omega | (simp only [InK]; omega) | (simp [InK] <;> omega))); simp only [↓sx0, xE, sevalprocAttr])
    refine ⟨q, StLe.auto (by simp only [sx2, xR, sevalprocAttr] <;> (try simp) <;> (try omega)), ?_, ?_⟩
    all_goals omega
   ·rw [if_neg heq] at hst
    rw [← hst, cV_tl]
    simp only [↓sx0, xE, sevalprocAttr]
    repeat ((with_reducible refine Vc.go ?_ fun _ => ?_); (focus (first | omega | (simp only [InK]; omega) | (simp [InK] <;> omega))); simp only [↓sx0, xE, sevalprocAttr])
    refine ⟨q, StLe.auto (by simp only [sx2, xR, sevalprocAttr] <;> (try simp) <;> (try omega)), ?_, ?_⟩
    all_goals omega
  ·simp only [↓sx0, xE, sevalprocAttr]
   have hj0 : j = 0 := by omega
   subst hj0
   rw [cT_zero]
   repeat ((with_reducible refine Vc.go ?_ fun _ => ?_); (focus (first | omega | (simp only [InK]; omega) | (simp [InK] <;> omega))); simp only [↓sx0, xE, sevalprocAttr])
   refine ⟨i, StLe.trans (StLe.close (k := 1) (s := 1) (ks := (rowT a b i).map eI) (r := 0) (e' := 58) (s' := 1) (els := E) (i := i) (c := 0) (el := [D.v (.slice (some ad) n0 c0)]) ⟨_, _, rfl, rfl, by decide, rfl, by decide, by decide, hE0, rfl⟩) (StLe.trans StLe.arm (StLe.auto (by simp only [sx2, xR, sevalprocAttr] <;> (try simp) <;> (try omega)))), ?_, ?_⟩
   all_goals omega
 ·simp only [↓sx0, xE, sevalprocAttr]
  have hx0 : x = 0 := by omega
  subst hx0
  have hkp : kpLL (tabT a b 0) := by rw [kpLL_all]; intro e he; obtain ⟨r, _, rfl⟩ := List.mem_map.1 he; simp [kpL, kpD, kpLL_map, eI]
  refine EndW.fn ?_ ?_ <;> simp only [sx4, xK, sevalprocAttr] <;> (try simp [hkp]) <;> (try omega)
end Go.Proofs.YtmbemlmkfoblhaaGreatDoor
/-
 Chapter 8, walks: pairs that are kept.
-/
namespace Go.Proofs.YtmbemlmkfoblhaaGreatDoor
open Go Go.Vx
set_option maxRecDepth 20000
theorem checkSorts_s (b1 b2 : Bool) (a b : List Int) : Ctr Tryz.prog 53 [.sl b1 1 (a.map eI), .sl b2 1 (b.map eI)] (fun rr => rr = ⟨(.v (.int .i64 (if a.length ≤ 300 ∧ b.length ≤ 300 then 0 else 8))), []⟩) := by
 refine Ctr.of (rs := [.tmp 4]) Tok true Tryz.func53 rfl rfl rfl rfl (by simp [ofDL]) (fun w0 kp => ?_)
 simp only [↓sx0, xE, sevalprocAttr]
 refine BrW.dec (fun h1 => ?_) (fun h1 => ?_)
 ·rw [if_neg (by omega)]
  simp only [↓sx0, xE, sevalprocAttr]
  repeat ((with_reducible refine BrW.yes (by omega) ?_); simp only [↓sx0, xE, sevalprocAttr])
  refine EndW.fn ?_ ?_ <;> simp only [sx4, xK, sevalprocAttr] <;> (try simp) <;> (try omega)
 ·simp only [↓sx0, xE, sevalprocAttr]
  repeat ((with_reducible refine BrW.no (by omega) ?_); simp only [↓sx0, xE, sevalprocAttr])
  refine BrW.dec (fun h2 => ?_) (fun h2 => ?_)
  ·rw [if_neg (by omega)]
   simp only [↓sx0, xE, sevalprocAttr]
   refine EndW.fn ?_ ?_ <;> simp only [sx4, xK, sevalprocAttr] <;> (try simp) <;> (try omega)
  ·rw [if_pos (by omega)]
   simp only [↓sx0, xE, sevalprocAttr]
   refine EndW.fn ?_ ?_ <;> simp only [sx4, xK, sevalprocAttr] <;> (try simp) <;> (try omega)
def eJ (p : Nat × Nat) : List D := [(.v (.int .i64 ((p.1 : Int)))), (.v (.int .i64 ((p.2 : Int))))]
/-- the first place in b from f on that is kept with place i of a. -/
def keP (a b : List Int) (i f k : Nat) : Bool := match a[i]?, b[k]? with
 | some x, some y => decide (x = y) && decide (tl a b (i + 1) (k + 1) + 1 = tl a b i f)
 | _, _ => false
def keF (a b : List Int) (i f : Nat) : Nat → Nat → Option Nat
 | 0, _ => none
 | n + 1, k => if keP a b i f k = true then some k else keF a b i f n (k + 1)
def keN (a b : List Int) (i f : Nat) : Option Nat := keF a b i f (b.length - f) f
/-- the pairs of the first i places, and where to go on. -/
def keS : (a b : List Int) → Nat → List (Nat × Nat) × Nat
 | _, _, 0 => ([], 0)
 | a, b, i + 1 => match keN a b i (keS a b i).2 with
  | none => keS a b i
  | some k => ((keS a b i).1 ++ [(i, k)], k + 1)
theorem keF_b (a b : List Int) (i f : Nat) : ∀ n k j, keF a b i f n k = some j → k ≤ j ∧ j < k + n
 | 0, _, _, h => by simp [keF] at h
 | n + 1, k, j, h => by
  unfold keF at h
  split at h
  ·cases h; omega
  ·have := keF_b a b i f n (k + 1) j h; omega
theorem keS_b (a b : List Int) : ∀ i, (keS a b i).2 ≤ b.length ∧ (keS a b i).1.length ≤ i
 | 0 => by simp [keS]
 | i + 1 => by
  have h := keS_b a b i
  simp only [keS]
  split
  ·omega
  ·rename_i k hk
   have := keF_b a b i _ _ _ _ hk
   simp only [List.length_append, List.length_cons, List.length_nil]
   omega
def keptL (a b : List Int) : List (Nat × Nat) := (keS a b a.length).1
theorem tab0_get {a b : List Int} {r : Nat} (h : r < a.length + 1) : (tabT a b 0)[r]? = some [.sl true 1 ((rowT a b r).map eI)] := by rw [tabT_get h, if_pos (by omega)]
def keptV (a b : List Int) : List (Nat × Nat) × Int := if a.length ≤ 300 ∧ b.length ≤ 300 then (keptL a b, 0) else ([], 8)
set_option maxHeartbeats 8000000 in
theorem kept_s (b1 b2 : Bool) (a b : List Int) : Ctr Tryz.prog 24 [.sl b1 1 (a.map eI), .sl b2 1 (b.map eI)] (fun rr => rr = ⟨.tup [.sl true 2 ((keptV a b).1.map eJ), (.v (.int .i64 ((keptV a b).2)))], []⟩) := by
 have encs := And.intro encs (show ∀ p, eJ p = [(.v (.int .i64 ((p.1 : Int)))), (.v (.int .i64 ((p.2 : Int))))] from fun _ => rfl)
 have hcs := checkSorts_s b1 b2 a b
 refine Ctr.of (rs := [.tmp 4, .tmp 5]) Tok true Tryz.func24 rfl rfl rfl rfl (by simp [ofDL]) (fun w0 kp => ?_)
 simp only [↓sx0, sxE, encs, sevalprocAttr]
 by_cases hs : a.length ≤ 300 ∧ b.length ≤ 300
 ·rw [if_pos hs] at hcs
  rw [show keptV a b = (keptL a b, 0) by rw [keptV, if_pos hs]]
  refine CallI.fn (hcs) (by simp only [sx3, encs, sxR, sevalprocAttr] <;> (try simp) <;> (try rfl)) ?_
  simp only [↓sx0, sxE, encs, sevalprocAttr]
  refine BrW.no (by simp) ?_
  simp only [↓sx0, sxE, encs, sevalprocAttr]
  refine CallI.fn (tails_s b1 b2 a b (by omega) (by omega)) (by simp only [sx3, encs, sxR, sevalprocAttr] <;> (try simp) <;> (try rfl)) ?_
  simp only [↓sx0, sxE, encs, sevalprocAttr]
  refine LoopW.comp [1, 7, 8, 9, 22, 23, 24] (by simp only [sx2, encs, sxR, sevalprocAttr] <;> (try simp) <;> (try omega)) ?_
  simp only [sx2, sxR, sevalprocAttr]
  refine LoopW.up Tok (fun i : Nat => [(8, .row 0), (24, (.v (.int .i64 i))), (9, (.v (.int .i64 ((keS a b i).2))))]) (fun i => []) (fun i => []) (fun i => [.own 68 2 ((keS a b i).1.map eJ)]) (fun i => i ≤ a.length) (fun i => a.length - i) (0) (by simp only [sx2, encs, sxR, sevalprocAttr] <;> (try simp [keS, encs]) <;> (try omega)) ?_ ?_
  ·omega
  rintro i hi
  obtain ⟨hb1, hb2⟩ := keS_b a b i
  simp only [↓sx0, sxE, encs, sevalprocAttr]
  refine BrW.dec (fun hlt => ?_) (fun hlt => ?_)
  ·simp only [↓sx0, sxE, encs, sevalprocAttr]
   have hia : i < a.length := by omega
   refine IxW.nat hia ?_
   simp only [↓sx0, sxE, encs, sevalprocAttr]
   generalize hf : (keS a b i).2 = f at hb1 ⊢
   refine LoopW.comp [1, 7, 8, 9, 10, 11, 12, 22, 23, 24] (by simp only [sx2, encs, sxR, sevalprocAttr] <;> (try simp) <;> (try omega)) ?_
   simp only [sx2, sxR, sevalprocAttr]
   refine LoopW.up Tok (fun k : Nat => [(8, .row 0), (12, (.v (.int .i64 k))), (9, (.v (.int .i64 f)))]) (fun k => []) (fun k => []) (fun k => []) (fun k => (f ≤ k ∧ k ≤ b.length) ∧ keF a b i f (b.length - k) k = keN a b i f) (fun k => b.length - k) (f) (by simp only [sx2, encs, sxR, sevalprocAttr] <;> (try simp) <;> (try omega)) ?_ ?_
   ·exact ⟨⟨by omega, by omega⟩, rfl⟩
   rintro k ⟨⟨hfk, hkb⟩, hF⟩
   simp only [↓sx0, sxE, encs, sevalprocAttr]
   refine BrW.dec (fun hlt2 => ?_) (fun hlt2 => ?_)
   ·simp only [↓sx0, sxE, encs, sevalprocAttr]
    have hkb2 : k < b.length := by omega
    have hFs : keF a b i f (b.length - k) k = if keP a b i f k = true then some k else keF a b i f (b.length - (k + 1)) (k + 1) := by rw [show b.length - k = (b.length - (k + 1)) + 1 by omega, keF]
    have hP : keP a b i f k = (decide (a[i] = b[k]) && decide (tl a b (i + 1) (k + 1) + 1 = tl a b i f)) := by simp [keP, hia, hkb2]
    have hno : keP a b i f k = false → keF a b i f (b.length - (k + 1)) (k + 1) = keN a b i f := fun h => by rw [← hF, hFs, if_neg (by rw [h]; simp)]
    have htb := tl_b a b (i + 1) (k + 1)
    refine DrawW.plan Tok mixed (.q 0 <| .q 1 <| .q 2 <| .q 3 <| .q 4 <| .q 5 <| .q 6 <| .q 7 <| .q 8 <| .q 9 <| .q 10 <| .q 11 <| .q 12 <| .q 13 <| .q 14 <| .q 15 <| .q 16 <| .q 17 <| .q 18 <| .q 19 <| .q 20 <| .q 21 <| .q 22 <| .q 23 <| .q 24 <| .q 25 <| .done) (by kernel_rfl) (by kernel_rfl) ?_
    simp only [↓sx0, sxE, encs, sevalprocAttr]
    refine IxW.nat hkb2 ?_
    simp only [↓sx0, sxE, encs, sevalprocAttr]
    refine BrW.dec (fun heq => ?_) (fun heq => ?_)
    ·simp only [↓sx0, sxE, encs, sevalprocAttr]
     repeat ((with_reducible refine Vc.go ?_ fun _ => ?_); (focus (first | omega | (simp only [InK]; omega) | (simp [InK] <;> omega))); simp only [↓sx0, sxE, encs, sevalprocAttr])
     refine ⟨by omega, _, (by rw [show ((i : Int) + 1).toNat = i + 1 by omega]; exact tab0_get (by omega)), ?_⟩
     simp only [↓sx0, sxE, encs, sevalprocAttr]
     repeat ((with_reducible refine Vc.go ?_ fun _ => ?_); (focus (first | omega | (simp only [InK]; omega) | (simp [InK] <;> omega))); simp only [↓sx0, sxE, encs, sevalprocAttr])
     refine ⟨by omega, _, (by rw [show ((k : Int) + 1).toNat = k + 1 by omega]; exact rowT_get a b (i + 1) (k + 1) (by omega)), ?_⟩
     simp only [↓sx0, sxE, encs, sevalprocAttr]
     repeat ((with_reducible refine Vc.go ?_ fun _ => ?_); (focus (first | omega | (simp only [InK]; omega) | (simp [InK] <;> omega))); simp only [↓sx0, sxE, encs, sevalprocAttr])
     refine ⟨by omega, _, (by rw [Int.toNat_natCast]; exact tab0_get (by omega)), ?_⟩
     simp only [↓sx0, sxE, encs, sevalprocAttr]
     refine ⟨by omega, _, (by rw [Int.toNat_natCast]; exact rowT_get a b i f (by omega)), ?_⟩
     simp only [↓sx0, sxE, encs, sevalprocAttr]
     refine BrW.dec (fun h2 => ?_) (fun h2 => ?_)
     ·have hkp : keP a b i f k = true := by rw [hP, heq, h2]; simp
      have hN : keN a b i f = some k := by rw [← hF, hFs, if_pos hkp]
      have hS : keS a b (i + 1) = ((keS a b i).1 ++ [(i, k)], k + 1) := by simp only [keS]; rw [hf, hN]
      simp only [↓sx0, sxE, encs, sevalprocAttr]
      repeat ((with_reducible refine Vc.go ?_ fun _ => ?_); (focus (first | omega | (simp only [InK]; omega) | (simp [InK] <;> omega))); simp only [↓sx0, sxE, encs, sevalprocAttr])
      refine ⟨i + 1, StLe.auto (by simp only [sx2, encs, sxR, sevalprocAttr] <;> (try simp [hS, encs]) <;> (try omega)), ?_, ?_⟩
      ·omega
      ·omega
     ·have hkp : keP a b i f k = false := by rw [hP, decide_eq_false h2]; simp
      simp only [↓sx0, sxE, encs, sevalprocAttr]
      repeat ((with_reducible refine Vc.go ?_ fun _ => ?_); (focus (first | omega | (simp only [InK]; omega) | (simp [InK] <;> omega))); simp only [↓sx0, sxE, encs, sevalprocAttr])
      refine ⟨k + 1, StLe.auto (by simp only [sx2, encs, sxR, sevalprocAttr] <;> (try simp) <;> (try omega)), ?_, ?_⟩
      ·exact ⟨⟨by omega, by omega⟩, hno hkp⟩
      ·omega
    ·have hkp : keP a b i f k = false := by rw [hP, decide_eq_false (fun h => heq h.symm)]; simp
     simp only [↓sx0, sxE, encs, sevalprocAttr]
     repeat ((with_reducible refine Vc.go ?_ fun _ => ?_); (focus (first | omega | (simp only [InK]; omega) | (simp [InK] <;> omega))); simp only [↓sx0, sxE, encs, sevalprocAttr])
     refine ⟨k + 1, StLe.auto (by simp only [sx2, encs, sxR, sevalprocAttr] <;> (try simp) <;> (try omega)), ?_, ?_⟩
     ·exact ⟨⟨by omega, by omega⟩, hno hkp⟩
     ·omega
   ·have hkb3 : k = b.length := by omega
    have hN : keN a b i f = none := by rw [← hF, hkb3, Nat.sub_self, keF]
    have hS : keS a b (i + 1) = keS a b i := by simp only [keS]; rw [hf, hN]
    simp only [↓sx0, sxE, encs, sevalprocAttr]
    repeat ((with_reducible refine Vc.go ?_ fun _ => ?_); (focus (first | omega | (simp only [InK]; omega) | (simp [InK] <;> omega))); simp only [↓sx0, sxE, encs, sevalprocAttr])
    refine ⟨i + 1, StLe.auto (by simp only [sx2, encs, sxR, sevalprocAttr] <;> (try simp [hS, hf, encs]) <;> (try omega)), ?_, ?_⟩
    ·omega
    ·omega
  ·simp only [↓sx0, sxE, encs, sevalprocAttr]
   have hie : i = a.length := by omega
   subst hie
   refine EndW.fn ?_ ?_ <;> simp only [sx4, encs, kpLL_map, sxR, sevalprocAttr] <;> (try simp [keptL]) <;> (try omega)
 ·rw [if_neg hs] at hcs
  rw [show keptV a b = ([], 8) by rw [keptV, if_neg hs]]
  refine CallI.fn (hcs) (by simp only [sx3, encs, sxR, sevalprocAttr] <;> (try simp) <;> (try rfl)) ?_
  simp only [↓sx0, sxE, encs, sevalprocAttr]
  refine EndW.fn ?_ ?_ <;> simp only [sx4, encs, kpLL_map, sxR, sevalprocAttr] <;> (try simp) <;> (try omega)
end Go.Proofs.YtmbemlmkfoblhaaGreatDoor
/-
 Chapter 8, walks: lists of words.
-/
namespace Go.Proofs.YtmbemlmkfoblhaaGreatDoor
open Go Go.Vx
set_option maxRecDepth 20000
theorem take_eq_succ {α : Type} {l m : List α} {k : Nat} (h1 : k < l.length) (h2 : k < m.length) (h : l.take k = m.take k) (e : l[k] = m[k]) : l.take (k + 1) = m.take (k + 1) := by
 rw [List.take_succ_eq_append_getElem h1, List.take_succ_eq_append_getElem h2, h, e]
theorem texts_s (b b' : Bool) (l m : List ByteArray) (hl : l.length ≤ 1000000000) : Ctr Tryz.prog 26 [.sl b 1 (l.map eS), .sl b' 1 (m.map eS)] (fun rr => rr = ⟨(.v (.bool (decide (l = m)))), []⟩) := by
 refine Ctr.of (rs := [.tmp 4]) Tok true Tryz.func26 rfl rfl rfl rfl (by simp [ofDL]) (fun w0 kp => ?_)
 simp only [↓sx0, xE, sevalprocAttr]
 refine BrW.dec (fun hn => ?_) (fun hn => ?_)
 ·simp only [↓sx0, xE, sevalprocAttr]
  have : ¬ l = m := fun h => hn (by rw [h])
  refine EndW.fn ?_ ?_ <;> simp only [sx4, xK, sevalprocAttr] <;> (try simp [this]) <;> (try omega)
 ·simp only [↓sx0, xE, sevalprocAttr]
  have hn2 : l.length = m.length := by omega
  refine LoopW.comp [0, 1, 5] (by simp only [sx2, xR, sevalprocAttr] <;> (try simp) <;> (try omega)) ?_
  simp only [sx2, sxR, sevalprocAttr]
  refine LoopW.up Tok (fun k : Nat => [(5, (.v (.int .i64 k)))]) (fun k => []) (fun k => []) (fun k => []) (fun k => k ≤ l.length ∧ l.take k = m.take k) (fun k => l.length - k) (0) (by simp only [sx2, xR, sevalprocAttr] <;> (try simp) <;> (try omega)) ?_ ?_
  ·exact ⟨by omega, by simp⟩
  rintro k ⟨hk, ht⟩
  simp only [↓sx0, xE, sevalprocAttr]
  refine BrW.dec (fun hlt => ?_) (fun hlt => ?_)
  ·simp only [↓sx0, xE, sevalprocAttr]
   have h1 : k < l.length := by omega
   have h2 : k < m.length := by omega
   refine DrawW.plan Tok mixed (.q 0 <| .q 1 <| .q 2 <| .q 3 <| .q 4 <| .q 5 <| .q 6 <| .q 7 <| .q 8 <| .done) (by kernel_rfl) (by kernel_rfl) ?_
   simp only [↓sx0, xE, sevalprocAttr]
   refine IxW.nat h1 ?_
   simp only [↓sx0, xE, sevalprocAttr]
   refine IxW.nat h2 ?_
   simp only [↓sx0, xE, sevalprocAttr]
   refine BrW.dec (fun hne => ?_) (fun hne => ?_)
   ·simp only [↓sx0, xE, sevalprocAttr]
    have : ¬ l = m := fun h => hne (by subst h; rfl)
    refine EndW.fn ?_ ?_ <;> simp only [sx4, xK, sevalprocAttr] <;> (try simp [this]) <;> (try omega)
   ·simp only [↓sx0, xE, sevalprocAttr]
    have he : l[k] = m[k] := by exact Decidable.not_not.1 hne
    (with_reducible refine Vc.go ?_ fun _ => ?_); focus (first | omega | (simp only [InK]; omega) | (simp [InK] <;> omega))
    simp only [↓sx0, xE, sevalprocAttr]
    refine ⟨k + 1, StLe.auto (by simp only [sx2, xR, sevalprocAttr] <;> (try simp) <;> (try omega)), ?_, ?_⟩
    ·exact ⟨h1, take_eq_succ h1 h2 ht he⟩
    ·omega
  ·simp only [↓sx0, xE, sevalprocAttr]
   have hke : k = l.length := by omega
   subst hke
   rw [List.take_length, hn2, List.take_length] at ht
   refine EndW.fn ?_ ?_ <;> simp only [sx4, xK, sevalprocAttr] <;> (try simp [ht]) <;> (try omega)
theorem grow_s (n : Nat) (hn : n ≤ 1000000) : Ctr Tryz.prog 114 [.v (.slice none 0 0), (.v (.int .i64 n))] (fun rr => rr = ⟨.row 0, [.own 9 1 []]⟩) := by
 refine Ctr.of (rs := [.tmp 4]) Tok false Tryz.func114 rfl rfl rfl rfl (by simp [ofDL]) (fun w0 kp => ?_)
 simp only [↓sx0, xE, sevalprocAttr]
 refine BrW.no (by omega) ?_
 simp only [↓sx0, xE, sevalprocAttr]
 (with_reducible refine Vc.go ?_ fun _ => ?_); focus (first | omega | (simp only [InK]; omega) | (simp [InK] <;> omega))
 simp only [↓sx0, xE, sevalprocAttr]
 (with_reducible refine Vc.go ?_ fun _ => ?_); focus (first | omega | (simp only [InK]; omega) | (simp [InK] <;> omega))
 simp only [↓sx0, xE, sevalprocAttr]
 refine BrW.dec (fun h => ?_) (fun h => ?_)
 ·simp only [↓sx0, xE, sevalprocAttr]
  (with_reducible refine Vc.go ?_ fun _ => ?_); focus (first | omega | (simp only [InK]; omega) | (simp [InK] <;> omega))
  simp only [↓sx0, xE, sevalprocAttr]
  (with_reducible refine Vc.go ?_ fun _ => ?_); focus (first | omega | (simp only [InK]; omega) | (simp [InK] <;> omega))
  simp only [↓sx0, xE, sevalprocAttr]
  (with_reducible refine Vc.go ?_ fun _ => ?_); focus (first | omega | (simp only [InK]; omega) | (simp [InK] <;> omega))
  simp only [↓sx0, xE, sevalprocAttr]
  exact EndW.r [some 1] (by simp) (by simp only [sx4, sxF, xK, sevalprocAttr] <;> simp) (by simp only [sx4, sxF, xK, sevalprocAttr] <;> simp) (by simp only [sx4, sxF, xK, sevalprocAttr] <;> simp) (by simp only [sx4, sxF, xK, sevalprocAttr] <;> simp)
 ·simp only [↓sx0, xE, sevalprocAttr]
  exact EndW.r [none] (by simp) (by simp only [sx4, sxF, xK, sevalprocAttr] <;> simp) (by simp only [sx4, sxF, xK, sevalprocAttr] <;> simp) (by simp only [sx4, sxF, xK, sevalprocAttr] <;> simp) (by simp only [sx4, sxF, xK, sevalprocAttr] <;> simp)
def eSL (p : Bool × List ByteArray) : List D := [.sl p.1 1 (p.2.map eS)]
def cat (ls : List (Bool × List ByteArray)) : List ByteArray := ls.flatMap Prod.snd
theorem lens_take {ls : List (Bool × List ByteArray)} {k : Nat} (h : k < ls.length) : cat (ls.take (k + 1)) = cat (ls.take k) ++ ls[k].2 := by
 rw [List.take_succ_eq_append_getElem h, cat, List.flatMap_append, cat]; simp only [List.flatMap_cons, List.flatMap_nil, List.append_nil]
theorem lens_le (ls : List (Bool × List ByteArray)) (k : Nat) : (cat (ls.take k)).length ≤ (cat ls).length := by
 conv => rhs; rw [← List.take_append_drop k ls, cat, List.flatMap_append, List.length_append]
 unfold cat
 omega
theorem concat_s (b : Bool) (ls : List (Bool × List ByteArray)) (hn : ls.length ≤ 1000) (hl : (cat ls).length ≤ 1000000) :
  Ctr Tryz.prog 87 [.sl b 1 (ls.map eSL)] (fun rr => rr = ⟨.row 0, [.own 9 1 ((cat ls).map eS)]⟩) := by
 have encs := And.intro encs (show ∀ p, eSL p = [.sl p.1 1 (p.2.map eS)] from fun _ => rfl)
 refine Ctr.of (rs := [.tmp 2]) Tok false Tryz.func87 rfl rfl rfl rfl (by simp [ofDL]) (fun w0 kp => ?_)
 simp only [↓sx0, sxE, encs, sevalprocAttr]
 refine LoopW.comp [0, 3, 9, 10, 11] (by simp only [sx2, encs, sxR, sevalprocAttr] <;> (try simp) <;> (try omega)) ?_
 simp only [sx2, sxR, sevalprocAttr]
 refine LoopW.up Tok (fun k : Nat => [(3, (.v (.int .i64 ((cat (ls.take k)).length)))), (11, (.v (.int .i64 k)))]) (fun k => []) (fun k => []) (fun k => []) (fun k => k ≤ ls.length) (fun k => ls.length - k) (0) (by simp only [sx2, encs, sxR, sevalprocAttr] <;> (try simp [cat, encs]) <;> (try omega)) ?_ ?_
 ·omega
 rintro k hk
 have hb := lens_le ls k
 simp only [↓sx0, sxE, encs, sevalprocAttr]
 refine BrW.dec (fun hlt => ?_) (fun hlt => ?_)
 ·simp only [↓sx0, sxE, encs, sevalprocAttr]
  have hk' : k < ls.length := by omega
  have hb2 := lens_le ls (k + 1)
  rw [lens_take hk', List.length_append] at hb2
  refine IxW.nat hk' ?_
  simp only [↓sx0, sxE, encs, sevalprocAttr]
  (with_reducible refine Vc.go ?_ fun _ => ?_); focus (first | omega | (simp only [InK]; omega) | (simp [InK] <;> omega))
  simp only [↓sx0, sxE, encs, sevalprocAttr]
  refine BrW.no (by omega) ?_
  simp only [↓sx0, sxE, encs, sevalprocAttr]
  (with_reducible refine Vc.go ?_ fun _ => ?_); focus (first | omega | (simp only [InK]; omega) | (simp [InK] <;> omega))
  simp only [↓sx0, sxE, encs, sevalprocAttr]
  refine ⟨k + 1, StLe.auto (by simp only [sx2, encs, sxR, sevalprocAttr] <;> (try simp [lens_take hk', encs]) <;> (try omega)), ?_, ?_⟩
  ·omega
  ·omega
 ·simp only [↓sx0, sxE, encs, sevalprocAttr]
  have hke : k = ls.length := by omega
  subst hke
  rw [List.take_length]
  refine CallI.ctr (grow_s (cat ls).length hl) (by simp only [sx3, encs, sxR, sevalprocAttr] <;> (try simp) <;> (try rfl)) ?_
  rintro _ rfl
  simp only [↓sx0, sxE, encs, sevalprocAttr]
  refine LoopW.comp [6, 25, 26, 27] (by simp only [sx2, encs, sxR, sevalprocAttr] <;> (try simp) <;> (try omega)) ?_
  simp only [sx2, sxR, sevalprocAttr]
  refine LoopW.up Tok (fun k : Nat => [(27, (.v (.int .i64 k)))]) (fun k => []) (fun k => [(0, (cat (ls.take k)).map eS)]) (fun k => []) (fun k => k ≤ ls.length) (fun k => ls.length - k) (0) (by simp only [sx2, encs, sxR, sevalprocAttr] <;> (try simp [cat, encs]) <;> (try omega)) ?_ ?_
  ·omega
  rintro k hk
  have hb := lens_le ls k
  simp only [↓sx0, sxE, encs, sevalprocAttr]
  refine BrW.dec (fun hlt => ?_) (fun hlt => ?_)
  ·simp only [↓sx0, sxE, encs, sevalprocAttr]
   have hk' : k < ls.length := by omega
   have hb2 := lens_le ls (k + 1)
   rw [lens_take hk', List.length_append] at hb2
   refine IxW.nat hk' ?_
   simp only [↓sx0, sxE, encs, sevalprocAttr]
   (with_reducible refine Vc.go ?_ fun _ => ?_); focus (first | omega | (simp only [InK]; omega) | (simp [InK] <;> omega))
   simp only [↓sx0, sxE, encs, sevalprocAttr]
   (with_reducible refine Vc.go ?_ fun _ => ?_); focus (first | omega | (simp only [InK]; omega) | (simp [InK] <;> omega))
   simp only [↓sx0, sxE, encs, sevalprocAttr]
   refine ⟨k + 1, StLe.auto (by simp only [sx2, encs, sxR, sevalprocAttr] <;> (try simp [lens_take hk', encs]) <;> (try omega)), ?_, ?_⟩
   ·omega
   ·omega
  ·simp only [↓sx0, sxE, encs, sevalprocAttr]
   have hke : k = ls.length := by omega
   subst hke
   rw [List.take_length]
   exact EndW.r [some 0] (by simp) (by simp only [sx4, sxF, encs, kpLL_map, sxR, sevalprocAttr] <;> simp [kpLL_map, encs, kpL, kpD]) (by simp only [sx4, sxF, encs, kpLL_map, sxR, sevalprocAttr] <;> simp [kpLL_map, encs, kpL, kpD]) (by simp only [sx4, sxF, encs, kpLL_map, sxR, sevalprocAttr] <;> simp [kpLL_map, encs, kpL, kpD]) (by simp only [sx4, sxF, encs, kpLL_map, sxR, sevalprocAttr] <;> simp [kpLL_map, encs, kpL, kpD])
theorem words1_s (s : ByteArray) (hs : s.size ≤ 1000000000) : Ctr Tryz.prog 88 [(.v (.string (s)))] (fun rr => rr = ⟨(.v (.bool (badW s))), []⟩) := by
 refine Ctr.of (rs := [.tmp 2]) Tok true Tryz.func88 rfl rfl rfl rfl (by simp [ofDL]) (fun w0 kp => ?_)
 simp only [↓sx0, xE, sevalprocAttr]
 refine CallI.fn (isWord_s s hs) (by simp only [sx3, xR, sevalprocAttr] <;> (try simp) <;> (try rfl)) ?_
 simp only [↓sx0, xE, sevalprocAttr]
 refine EndW.fn ?_ ?_ <;> simp only [sx4, xK, sevalprocAttr] <;> (try simp [badW]) <;> (try omega)
/-- the error of two lists of words. -/
def wdsErr (a b : List ByteArray) : Int := if a.length ≤ 40 ∧ b.length ≤ 40 then (if (a ++ b).any badW = true then 3 else 0) else 8
def AllSz (l : List ByteArray) : Prop := ∀ s ∈ l, s.size ≤ 1000000000
theorem checkWords_s (b1 b2 : Bool) (l m : List ByteArray) (hl : AllSz l) (hm : AllSz m) : Ctr Tryz.prog 55 [.sl b1 1 (l.map eS), .sl b2 1 (m.map eS)] (fun rr => rr = ⟨(.v (.int .i64 (wdsErr l m))), []⟩) := by
 have encs := And.intro encs (show ∀ p, eSL p = [.sl p.1 1 (p.2.map eS)] from fun _ => rfl)
 refine Ctr.of (rs := [.tmp 4]) Tok true Tryz.func55 rfl rfl rfl rfl (by simp [ofDL]) (fun w0 kp => ?_)
 simp only [↓sx0, sxE, encs, sevalprocAttr]
 refine BrW.dec (fun h1 => ?_) (fun h1 => ?_)
 ·rw [show wdsErr l m = 8 by rw [wdsErr, if_neg (by omega)]]
  simp only [↓sx0, sxE, encs, sevalprocAttr]
  repeat ((with_reducible refine BrW.yes (by omega) ?_); simp only [↓sx0, sxE, encs, sevalprocAttr])
  refine EndW.fn ?_ ?_ <;> simp only [sx4, encs, kpLL_map, sxR, sevalprocAttr] <;> (try simp) <;> (try omega)
 ·simp only [↓sx0, sxE, encs, sevalprocAttr]
  repeat ((with_reducible refine BrW.no (by omega) ?_); simp only [↓sx0, sxE, encs, sevalprocAttr])
  refine BrW.dec (fun h2 => ?_) (fun h2 => ?_)
  ·rw [show wdsErr l m = 8 by rw [wdsErr, if_neg (by omega)]]
   simp only [↓sx0, sxE, encs, sevalprocAttr]
   refine EndW.fn ?_ ?_ <;> simp only [sx4, encs, kpLL_map, sxR, sevalprocAttr] <;> (try simp) <;> (try omega)
  ·have hc : cat [(b1, l), (b2, m)] = l ++ m := by simp [cat]
   rw [show wdsErr l m = if (l ++ m).any badW = true then 3 else 0 by rw [wdsErr, if_pos (by omega)]]
   simp only [↓sx0, sxE, encs, sevalprocAttr]
   refine CallI.ctr (concat_s false [(b1, l), (b2, m)] (by simp) (by rw [hc, List.length_append]; omega)) (by simp only [sx3, encs, sxR, sevalprocAttr] <;> (try simp) <;> (try rfl)) ?_
   rintro _ rfl
   rw [hc]
   simp only [↓sx0, sxE, encs, sevalprocAttr]
   refine CallI.fn (containsS_s false 88 badW (l ++ m) (by rw [List.length_append]; omega) (fun x hx => words1_s x ((List.mem_append.1 hx).elim (hl x) (hm x)))) (by simp only [sx3, encs, sxR, sevalprocAttr] <;> (try simp) <;> (try rfl)) ?_
   simp only [↓sx0, sxE, encs, sevalprocAttr]
   refine BrW.of (fun hb => ?_) (fun hb => ?_)
   ·rw [if_pos hb]
    simp only [↓sx0, sxE, encs, sevalprocAttr]
    refine EndW.fn ?_ ?_ <;> simp only [sx4, encs, kpLL_map, sxR, sevalprocAttr] <;> (try simp) <;> (try omega)
   ·rw [if_neg (by rw [hb]; simp)]
    simp only [↓sx0, sxE, encs, sevalprocAttr]
    refine EndW.fn ?_ ?_ <;> simp only [sx4, encs, kpLL_map, sxR, sevalprocAttr] <;> (try simp) <;> (try omega)
end Go.Proofs.YtmbemlmkfoblhaaGreatDoor
/-
 Chapter 8, walks: edits are checked.
-/
namespace Go.Proofs.YtmbemlmkfoblhaaGreatDoor
open Go Go.Vx
set_option maxRecDepth 20000
def nxOk (n : Int) (i m : Nat) : Bool := decide (n = -1) || (decide (n = i) && decide (i < m))
def nxI (n : Int) (i : Nat) : Nat := if n = -1 then i else i + 1
def edC (a b : List ByteArray) (x : Ed) (i k : Nat) : Nat := if x.fr = -1 ∨ x.to = -1 ∨ a[i]? ≠ b[k]? then 1 else 0
/-- the cost of edits, and the error, from a place on. -/
def edF (a b : List ByteArray) : List Ed → Nat → Nat → Nat → Int × Int
 | [], i, k, c => if i = a.length ∧ k = b.length then ((c : Int), 0) else (0, 14)
 | x :: l, i, k, c => if x.fr = -1 ∧ x.to = -1 then (0, 3) else if nxOk x.fr i a.length = true ∧ nxOk x.to k b.length = true then edF a b l (nxI x.fr i) (nxI x.to k) (c + edC a b x i k) else (0, 9)
structure ESt where
 n : Nat
 i : Nat
 k : Nat
 c : Nat
def edV (a b : List ByteArray) (l : List Ed) : Int × Int := if wdsErr a b = 0 then edF a b l 0 0 0 else (0, wdsErr a b)
set_option maxHeartbeats 16000000 in
theorem checkEdits_s (b1 b2 b3 : Bool) (a b : List ByteArray) (l : List Ed) (ha : AllSz a) (hb : AllSz b) (hl : l.length ≤ 1000000) : Ctr Tryz.prog 25 [.sl b1 1 (a.map eS), .sl b2 1 (b.map eS), .sl b3 2 (l.map eE)] (fun rr => rr = ⟨.tup [(.v (.int .i64 ((edV a b l).1))), (.v (.int .i64 ((edV a b l).2)))], []⟩) := by
 have hcw := checkWords_s b1 b2 a b ha hb
 refine Ctr.of (rs := [.tmp 6, .tmp 7]) Tok true Tryz.func25 rfl rfl rfl rfl (by simp [ofDL]) (fun w0 kp => ?_)
 simp only [↓sx0, xE, sevalprocAttr]
 refine CallI.fn (hcw) (by simp only [sx3, xR, sevalprocAttr] <;> (try simp) <;> (try rfl)) ?_
 simp only [↓sx0, xE, sevalprocAttr]
 refine BrW.dec (fun he => ?_) (fun he => ?_)
 ·rw [show edV a b l = (0, wdsErr a b) by rw [edV, if_neg he]]
  simp only [↓sx0, xE, sevalprocAttr]
  refine EndW.fn ?_ ?_ <;> simp only [sx4, xK, sevalprocAttr] <;> (try simp) <;> (try omega)
 ·have he : wdsErr a b = 0 := Decidable.not_not.1 he
  have hlen : a.length ≤ 40 ∧ b.length ≤ 40 := by
   unfold wdsErr at he
   split at he
   ·assumption
   ·omega
  rw [show edV a b l = edF a b l 0 0 0 by rw [edV, if_pos he]]
  simp only [↓sx0, xE, sevalprocAttr]
  skip
  refine LoopW.comp [0, 1, 9, 10, 11, 20, 21, 22] (by simp only [sx2, xR, sevalprocAttr] <;> (try simp) <;> (try omega)) ?_
  simp only [sx2, sxR, sevalprocAttr]
  refine LoopW.up Tok (fun s : ESt => [(11, (.v (.int .i64 s.c))), (22, (.v (.int .i64 s.n)))]) (fun s => [(0, [(.v (.int .i64 s.i))]), (1, [(.v (.int .i64 s.k))])]) (fun s => []) (fun s => []) (fun s => (s.n ≤ l.length ∧ s.i ≤ a.length ∧ s.k ≤ b.length ∧ s.c ≤ s.n) ∧ edF a b (l.drop s.n) s.i s.k s.c = edF a b l 0 0 0) (fun s => l.length - s.n) (⟨0, 0, 0, 0⟩) (by simp only [sx2, xR, sevalprocAttr] <;> (try simp) <;> (try omega)) ?_ ?_
  ·exact ⟨⟨by simp, by simp, by simp, by simp⟩, rfl⟩
  rintro ⟨n, i, k, c⟩ ⟨⟨hn, hi, hk, hc⟩, hE⟩
  simp only at hn hi hk hc hE
  simp only [↓sx0, xE, sevalprocAttr]
  refine BrW.dec (fun hlt => ?_) (fun hlt => ?_)
  ·simp only [↓sx0, xE, sevalprocAttr]
   have hn2 : n < l.length := by omega
   have hd : l.drop n = l[n] :: l.drop (n + 1) := List.drop_eq_getElem_cons hn2
   refine IxW.nat hn2 ?_
   simp only [↓sx0, xE, sevalprocAttr]
   generalize l[n] = x at hd ⊢
   have hcb : c ≤ 1000000 := by omega
   rw [hd, edF] at hE
   refine BrW.dec (fun q1 => ?_) (fun q1 => ?_)
   ·simp only [↓sx0, xE, sevalprocAttr]
    refine BrW.dec (fun q2 => ?_) (fun q2 => ?_)
    ·simp only [↓sx0, xE, sevalprocAttr]
     rw [if_pos ⟨q1, q2⟩] at hE
     rw [← hE]
     refine EndW.fn ?_ ?_ <;> simp only [sx4, xK, sevalprocAttr] <;> (try simp) <;> (try omega)
    ·simp only [↓sx0, xE, sevalprocAttr]
     repeat ((with_reducible refine BrW.no (by omega) ?_); simp only [↓sx0, xE, sevalprocAttr])
     refine CallI.inl (rs := [.tmp 6]) Tok Tryz.func56 rfl rfl rfl rfl (by simp) (fun ρ σ μ fr lp => ?_)
     simp only [↓sx0, xE, sevalprocAttr]
     repeat ((with_reducible refine BrW.yes (by omega) ?_); simp only [↓sx0, xE, sevalprocAttr])
     refine CallI.inl (rs := [.tmp 6]) Tok Tryz.func56 rfl rfl rfl rfl (by simp) (fun ρ σ μ fr lp => ?_)
     simp only [↓sx0, xE, sevalprocAttr]
     repeat ((with_reducible refine BrW.no (by omega) ?_); simp only [↓sx0, xE, sevalprocAttr])
     refine BrW.dec (fun g2 => ?_) (fun g2 => ?_)
     ·simp only [↓sx0, xE, sevalprocAttr]
      repeat ((with_reducible refine BrW.yes (by omega) ?_); simp only [↓sx0, xE, sevalprocAttr])
      rw [if_neg (by omega), if_neg (by simp only [nxOk, Bool.or_eq_true, Bool.and_eq_true, decide_eq_true_eq]; omega)] at hE
      rw [← hE]
      refine EndW.fn ?_ ?_ <;> simp only [sx4, xK, sevalprocAttr] <;> (try simp) <;> (try omega)
     ·simp only [↓sx0, xE, sevalprocAttr]
      repeat ((with_reducible refine BrW.no (by omega) ?_); simp only [↓sx0, xE, sevalprocAttr])
      refine BrW.dec (fun g3 => ?_) (fun g3 => ?_)
      ·simp only [↓sx0, xE, sevalprocAttr]
       rw [if_neg (by omega), if_neg (by simp only [nxOk, Bool.or_eq_true, Bool.and_eq_true, decide_eq_true_eq]; omega)] at hE
       rw [← hE]
       refine EndW.fn ?_ ?_ <;> simp only [sx4, xK, sevalprocAttr] <;> (try simp) <;> (try omega)
      ·simp only [↓sx0, xE, sevalprocAttr]
       repeat ((with_reducible refine Vc.go ?_ fun _ => ?_); (focus (first | omega | (simp only [InK]; omega) | (simp [InK] <;> omega))); simp only [↓sx0, xE, sevalprocAttr])
       refine DrawW.plan Tok mixed (.q 0 <| .q 1 <| .q 2 <| .q 3 <| .q 4 <| .q 5 <| .q 6 <| .q 7 <| .q 8 <| .q 9 <| .q 10 <| .q 11 <| .q 12 <| .q 13 <| .q 14 <| .q 15 <| .q 16 <| .q 17 <| .q 18 <| .q 19 <| .q 20 <| .done) (by kernel_rfl) (by kernel_rfl) ?_
       simp only [↓sx0, xE, sevalprocAttr]
       repeat ((with_reducible refine BrW.yes (by omega) ?_); simp only [↓sx0, xE, sevalprocAttr])
       repeat ((with_reducible refine Vc.go ?_ fun _ => ?_); (focus (first | omega | (simp only [InK]; omega) | (simp [InK] <;> omega))); simp only [↓sx0, xE, sevalprocAttr])
       rw [if_neg (by omega), if_pos (by simp only [nxOk, Bool.or_eq_true, Bool.and_eq_true, decide_eq_true_eq]; omega)] at hE
       rw [show nxI x.fr i = i by rw [nxI, if_pos (by omega)]] at hE
       rw [show nxI x.to k = k + 1 by rw [nxI, if_neg (by omega)]] at hE
       rw [show edC a b x i k = 1 by rw [edC, if_pos (by first | omega | (simp only [hab]; simp [hne]))]] at hE
       repeat ((with_reducible refine Vc.go ?_ fun _ => ?_); (focus (first | omega | (simp only [InK]; omega) | (simp [InK] <;> omega))); simp only [↓sx0, xE, sevalprocAttr])
       refine ⟨⟨n + 1, i, k + 1, c + 1⟩, StLe.auto (by simp only [sx2, xR, sevalprocAttr] <;> (try simp) <;> (try omega)), ?_, ?_⟩
       ·exact ⟨⟨by simp only; omega, by simp only; omega, by simp only; omega, by simp only; omega⟩, hE⟩
       ·simp only; omega
   ·simp only [↓sx0, xE, sevalprocAttr]
    repeat ((with_reducible refine BrW.no (by omega) ?_); simp only [↓sx0, xE, sevalprocAttr])
    refine CallI.inl (rs := [.tmp 6]) Tok Tryz.func56 rfl rfl rfl rfl (by simp) (fun ρ σ μ fr lp => ?_)
    simp only [↓sx0, xE, sevalprocAttr]
    repeat ((with_reducible refine BrW.no (by omega) ?_); simp only [↓sx0, xE, sevalprocAttr])
    refine BrW.dec (fun f2 => ?_) (fun f2 => ?_)
    ·simp only [↓sx0, xE, sevalprocAttr]
     repeat ((with_reducible refine BrW.yes (by omega) ?_); simp only [↓sx0, xE, sevalprocAttr])
     rw [if_neg (by omega), if_neg (by simp only [nxOk, Bool.or_eq_true, Bool.and_eq_true, decide_eq_true_eq]; omega)] at hE
     rw [← hE]
     refine EndW.fn ?_ ?_ <;> simp only [sx4, xK, sevalprocAttr] <;> (try simp) <;> (try omega)
    ·simp only [↓sx0, xE, sevalprocAttr]
     repeat ((with_reducible refine BrW.no (by omega) ?_); simp only [↓sx0, xE, sevalprocAttr])
     refine BrW.dec (fun f3 => ?_) (fun f3 => ?_)
     ·simp only [↓sx0, xE, sevalprocAttr]
      rw [if_neg (by omega), if_neg (by simp only [nxOk, Bool.or_eq_true, Bool.and_eq_true, decide_eq_true_eq]; omega)] at hE
      rw [← hE]
      refine EndW.fn ?_ ?_ <;> simp only [sx4, xK, sevalprocAttr] <;> (try simp) <;> (try omega)
     ·simp only [↓sx0, xE, sevalprocAttr]
      repeat ((with_reducible refine Vc.go ?_ fun _ => ?_); (focus (first | omega | (simp only [InK]; omega) | (simp [InK] <;> omega))); simp only [↓sx0, xE, sevalprocAttr])
      refine CallI.inl (rs := [.tmp 6]) Tok Tryz.func56 rfl rfl rfl rfl (by simp) (fun ρ σ μ fr lp => ?_)
      simp only [↓sx0, xE, sevalprocAttr]
      refine BrW.dec (fun g1 => ?_) (fun g1 => ?_)
      ·simp only [↓sx0, xE, sevalprocAttr]
       repeat ((with_reducible refine BrW.yes (by omega) ?_); simp only [↓sx0, xE, sevalprocAttr])
       refine DrawW.plan Tok mixed (.q 0 <| .q 1 <| .q 2 <| .q 3 <| .q 4 <| .q 5 <| .q 6 <| .q 7 <| .q 8 <| .q 9 <| .q 10 <| .q 11 <| .q 12 <| .q 13 <| .q 14 <| .q 15 <| .q 16 <| .q 17 <| .q 18 <| .q 19 <| .q 20 <| .done) (by kernel_rfl) (by kernel_rfl) ?_
       simp only [↓sx0, xE, sevalprocAttr]
       repeat ((with_reducible refine BrW.yes (by omega) ?_); simp only [↓sx0, xE, sevalprocAttr])
       repeat ((with_reducible refine BrW.no (by omega) ?_); simp only [↓sx0, xE, sevalprocAttr])
       repeat ((with_reducible refine BrW.yes (by omega) ?_); simp only [↓sx0, xE, sevalprocAttr])
       repeat ((with_reducible refine Vc.go ?_ fun _ => ?_); (focus (first | omega | (simp only [InK]; omega) | (simp [InK] <;> omega))); simp only [↓sx0, xE, sevalprocAttr])
       rw [if_neg (by omega), if_pos (by simp only [nxOk, Bool.or_eq_true, Bool.and_eq_true, decide_eq_true_eq]; omega)] at hE
       rw [show nxI x.fr i = i + 1 by rw [nxI, if_neg (by omega)]] at hE
       rw [show nxI x.to k = k by rw [nxI, if_pos (by omega)]] at hE
       rw [show edC a b x i k = 1 by rw [edC, if_pos (by first | omega | (simp only [hab]; simp [hne]))]] at hE
       repeat ((with_reducible refine Vc.go ?_ fun _ => ?_); (focus (first | omega | (simp only [InK]; omega) | (simp [InK] <;> omega))); simp only [↓sx0, xE, sevalprocAttr])
       refine ⟨⟨n + 1, i + 1, k, c + 1⟩, StLe.auto (by simp only [sx2, xR, sevalprocAttr] <;> (try simp) <;> (try omega)), ?_, ?_⟩
       ·exact ⟨⟨by simp only; omega, by simp only; omega, by simp only; omega, by simp only; omega⟩, hE⟩
       ·simp only; omega
      ·simp only [↓sx0, xE, sevalprocAttr]
       refine BrW.dec (fun g2 => ?_) (fun g2 => ?_)
       ·simp only [↓sx0, xE, sevalprocAttr]
        repeat ((with_reducible refine BrW.yes (by omega) ?_); simp only [↓sx0, xE, sevalprocAttr])
        rw [if_neg (by omega), if_neg (by simp only [nxOk, Bool.or_eq_true, Bool.and_eq_true, decide_eq_true_eq]; omega)] at hE
        rw [← hE]
        refine EndW.fn ?_ ?_ <;> simp only [sx4, xK, sevalprocAttr] <;> (try simp) <;> (try omega)
       ·simp only [↓sx0, xE, sevalprocAttr]
        repeat ((with_reducible refine BrW.no (by omega) ?_); simp only [↓sx0, xE, sevalprocAttr])
        refine BrW.dec (fun g3 => ?_) (fun g3 => ?_)
        ·simp only [↓sx0, xE, sevalprocAttr]
         rw [if_neg (by omega), if_neg (by simp only [nxOk, Bool.or_eq_true, Bool.and_eq_true, decide_eq_true_eq]; omega)] at hE
         rw [← hE]
         refine EndW.fn ?_ ?_ <;> simp only [sx4, xK, sevalprocAttr] <;> (try simp) <;> (try omega)
        ·simp only [↓sx0, xE, sevalprocAttr]
         repeat ((with_reducible refine Vc.go ?_ fun _ => ?_); (focus (first | omega | (simp only [InK]; omega) | (simp [InK] <;> omega))); simp only [↓sx0, xE, sevalprocAttr])
         refine DrawW.plan Tok mixed (.q 0 <| .q 1 <| .q 2 <| .q 3 <| .q 4 <| .q 5 <| .q 6 <| .q 7 <| .q 8 <| .q 9 <| .q 10 <| .q 11 <| .q 12 <| .q 13 <| .q 14 <| .q 15 <| .q 16 <| .q 17 <| .q 18 <| .q 19 <| .q 20 <| .done) (by kernel_rfl) (by kernel_rfl) ?_
         simp only [↓sx0, xE, sevalprocAttr]
         repeat ((with_reducible refine BrW.no (by omega) ?_); simp only [↓sx0, xE, sevalprocAttr])
         have hia : i < a.length := by omega
         have hkb : k < b.length := by omega
         have e1 : x.fr = (i : Int) := by omega
         have e2 : x.to = (k : Int) := by omega
         refine ⟨by omega, _, (by rw [e1, Int.toNat_natCast, List.getElem?_map, List.getElem?_eq_getElem hia]; rfl), ?_⟩
         simp only [↓sx0, xE, sevalprocAttr]
         refine ⟨by omega, _, (by rw [e2, Int.toNat_natCast, List.getElem?_map, List.getElem?_eq_getElem hkb]; rfl), ?_⟩
         simp only [↓sx0, xE, sevalprocAttr]
         have hab : a[i]? = some a[i] ∧ b[k]? = some b[k] := ⟨List.getElem?_eq_getElem hia, List.getElem?_eq_getElem hkb⟩
         refine BrW.dec (fun hne => ?_) (fun hne => ?_)
         ·simp only [↓sx0, xE, sevalprocAttr]
          rw [if_neg (by omega), if_pos (by simp only [nxOk, Bool.or_eq_true, Bool.and_eq_true, decide_eq_true_eq]; omega)] at hE
          rw [show nxI x.fr i = i + 1 by rw [nxI, if_neg (by omega)]] at hE
          rw [show nxI x.to k = k + 1 by rw [nxI, if_neg (by omega)]] at hE
          rw [show edC a b x i k = 1 by rw [edC, if_pos (by first | omega | (simp only [hab]; simp [hne]))]] at hE
          repeat ((with_reducible refine Vc.go ?_ fun _ => ?_); (focus (first | omega | (simp only [InK]; omega) | (simp [InK] <;> omega))); simp only [↓sx0, xE, sevalprocAttr])
          refine ⟨⟨n + 1, i + 1, k + 1, c + 1⟩, StLe.auto (by simp only [sx2, xR, sevalprocAttr] <;> (try simp) <;> (try omega)), ?_, ?_⟩
          ·exact ⟨⟨by simp only; omega, by simp only; omega, by simp only; omega, by simp only; omega⟩, hE⟩
          ·simp only; omega
         ·simp only [↓sx0, xE, sevalprocAttr]
          rw [if_neg (by omega), if_pos (by simp only [nxOk, Bool.or_eq_true, Bool.and_eq_true, decide_eq_true_eq]; omega)] at hE
          rw [show nxI x.fr i = i + 1 by rw [nxI, if_neg (by omega)]] at hE
          rw [show nxI x.to k = k + 1 by rw [nxI, if_neg (by omega)]] at hE
          rw [show edC a b x i k = 0 by rw [edC, if_neg (by simp only [hab]; simp [hne]; omega)]] at hE
          repeat ((with_reducible refine Vc.go ?_ fun _ => ?_); (focus (first | omega | (simp only [InK]; omega) | (simp [InK] <;> omega))); simp only [↓sx0, xE, sevalprocAttr])
          refine ⟨⟨n + 1, i + 1, k + 1, c⟩, StLe.auto (by simp only [sx2, xR, sevalprocAttr] <;> (try simp) <;> (try omega)), ?_, ?_⟩
          ·exact ⟨⟨by simp only; omega, by simp only; omega, by simp only; omega, by simp only; omega⟩, hE⟩
          ·simp only; omega
  ·simp only [↓sx0, xE, sevalprocAttr]
   have hne : n = l.length := by omega
   subst hne
   rw [List.drop_length, edF] at hE
   refine BrW.dec (fun ti => ?_) (fun ti => ?_)
   ·simp only [↓sx0, xE, sevalprocAttr]
    repeat ((with_reducible refine BrW.yes (by omega) ?_); simp only [↓sx0, xE, sevalprocAttr])
    rw [if_neg (by omega)] at hE
    rw [← hE]
    refine EndW.fn ?_ ?_ <;> simp only [sx4, xK, sevalprocAttr] <;> (try simp) <;> (try omega)
   ·simp only [↓sx0, xE, sevalprocAttr]
    repeat ((with_reducible refine BrW.no (by omega) ?_); simp only [↓sx0, xE, sevalprocAttr])
    refine BrW.dec (fun tk => ?_) (fun tk => ?_)
    ·rw [if_neg (by omega)] at hE
     rw [← hE]
     simp only [↓sx0, xE, sevalprocAttr]
     refine EndW.fn ?_ ?_ <;> simp only [sx4, xK, sevalprocAttr] <;> (try simp) <;> (try omega)
    ·rw [if_pos (by omega)] at hE
     rw [← hE]
     simp only [↓sx0, xE, sevalprocAttr]
     refine EndW.fn ?_ ?_ <;> simp only [sx4, xK, sevalprocAttr] <;> (try simp) <;> (try omega)
end Go.Proofs.YtmbemlmkfoblhaaGreatDoor
