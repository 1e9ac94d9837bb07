/-
 Chapter 8, walks: the laws are awake.
-/
import Derived.Test.YtmbemlmkfoblhaaGreatDoorVGE
import Derived.Test.YtmbemlmkfoblhaaGreatDoorVGG
set_option linter.unusedSimpArgs false
set_option linter.unusedVariables false
namespace Go.Proofs.YtmbemlmkfoblhaaGreatDoor
open Go Go.Vx
set_option maxRecDepth 20000
def foxL : List Pt := [⟨1, [⟨#[116, 104, 101]⟩, ⟨#[113, 117, 105, 99, 107]⟩, ⟨#[102, 111, 120]⟩]⟩]
def fox4 : List Pt := [⟨1, [⟨#[116, 104, 101]⟩, ⟨#[118, 101, 114, 121]⟩, ⟨#[113, 117, 105, 99, 107]⟩, ⟨#[102, 111, 120]⟩]⟩]
def inMk : Mk := ⟨2, 0, 1, ⟨#[]⟩, ⟨#[118, 101, 114, 121]⟩, 0, 0⟩
def outMk : Mk := ⟨1, 0, 3, ⟨#[102, 111, 120]⟩, ⟨#[]⟩, 0, 0⟩
def outMk2 : Mk := ⟨1, 0, 2, ⟨#[102, 111, 120]⟩, ⟨#[]⟩, 0, 0⟩
def wdsA : List ByteArray := [⟨#[116, 104, 101]⟩, ⟨#[113, 117, 105, 99, 107]⟩, ⟨#[102, 111, 120]⟩]
def wdsB : List ByteArray := [⟨#[97]⟩, ⟨#[113, 117, 105, 99, 107]⟩, ⟨#[114, 101, 100]⟩, ⟨#[102, 111, 120]⟩]
def edsL : List Ed := [⟨0, 0⟩, ⟨1, 1⟩, ⟨-1, 2⟩, ⟨2, 3⟩]
set_option maxHeartbeats 4000000 in
theorem SwQ_s (a b : Mk) (za : MkSz a) (zb : MkSz b) (e1 : mkErr a = 0) (e2 : mkErr b = 0) (q1 : a.mark ≠ 5) (q2 : a.mark ≠ 6) (q3 : b.mark ≠ 5) (q4 : b.mark ≠ 6) : Ctr Tryz.prog 23 [mV a, mV b] (fun rr => rr = ⟨.tup [prSV (swapF (quietP a b)).1, (.v (.int .i64 ((swapF (quietP a b)).2)))], []⟩) := by
 have encs := And.intro encs prE
 refine Ctr.of (rs := [.cell 4 52, .tmp 5]) Tok true Tryz.func23 rfl rfl rfl rfl (by simp [ofDL]) (fun w0 kp => ?_)
 simp only [↓sx0, sxE, encs, sevalprocAttr]
 refine LoopW.comp [2, 3, 4, 11, 12] (by simp only [sx2, encs, sxR, sevalprocAttr] <;> (try simp) <;> (try omega)) ?_
 simp only [sx2, sxR, sevalprocAttr]
 refine LoopW.up Tok (fun k : Nat => [(12, (.v (.int .i64 k)))]) (fun k => []) (fun k => []) (fun k => []) (fun k => k ≤ 2) (fun k => 2 - k) (0) (by simp only [sx2, encs, sxR, sevalprocAttr] <;> (try simp) <;> (try omega)) ?_ ?_
 ·omega
 rintro k hk
 simp only [↓sx0, sxE, encs, sevalprocAttr]
 refine BrW.dec (fun hlt => ?_) (fun hlt => ?_)
 ·have hk2 : k = 0 ∨ k = 1 := by omega
  rcases hk2 with rfl | rfl
  ·simp only [↓sx0, sxE, encs, sevalprocAttr]
   refine ArrIx.go (by simp) ?_
   simp only [↓sx0, sxE, encs, sevalprocAttr]
   refine CallI.fn (checkMark_s a za) (by simp only [sx3, encs, sxR, sevalprocAttr] <;> (try simp) <;> (try rfl)) ?_
   simp only [↓sx0, sxE, encs, sevalprocAttr]
   refine BrW.dec (fun he => ?_) (fun he => ?_)
   ·exact absurd e1 he
   ·simp only [↓sx0, sxE, encs, sevalprocAttr]
    repeat ((with_reducible refine Vc.go ?_ fun _ => ?_); (focus (first | omega | (simp only [InK]; omega) | (simp [InK] <;> omega))); simp only [↓sx0, sxE, encs, sevalprocAttr])
    refine ⟨1, StLe.auto (by simp only [sx2, encs, sxR, sevalprocAttr] <;> (try simp) <;> (try omega)), ?_, ?_⟩
    ·omega
    ·omega
  ·simp only [↓sx0, sxE, encs, sevalprocAttr]
   refine ArrIx.go (by simp) ?_
   simp only [↓sx0, sxE, encs, sevalprocAttr]
   refine CallI.fn (checkMark_s b zb) (by simp only [sx3, encs, sxR, sevalprocAttr] <;> (try simp) <;> (try rfl)) ?_
   simp only [↓sx0, sxE, encs, sevalprocAttr]
   refine BrW.dec (fun he => ?_) (fun he => ?_)
   ·exact absurd e2 he
   ·simp only [↓sx0, sxE, encs, sevalprocAttr]
    repeat ((with_reducible refine Vc.go ?_ fun _ => ?_); (focus (first | omega | (simp only [InK]; omega) | (simp [InK] <;> omega))); simp only [↓sx0, sxE, encs, sevalprocAttr])
    refine ⟨2, StLe.auto (by simp only [sx2, encs, sxR, sevalprocAttr] <;> (try simp) <;> (try omega)), ?_, ?_⟩
    ·omega
    ·omega
 ·simp only [↓sx0, sxE, encs, sevalprocAttr]
  refine CallI.fn (swappedQ_s a b (mk_ok e1).2.1 (mk_ok e2).2.1 q1 q2 q3 q4) (by simp only [sx3, encs, sxR, sevalprocAttr] <;> (try simp) <;> (try rfl)) ?_
  simp only [↓sx0, sxE, encs, sevalprocAttr]
  refine EndW.fn ?_ ?_ <;> simp only [sx4, encs, kpLL_map, sxR, sevalprocAttr] <;> (try simp) <;> (try omega)
theorem fox_s : Ctr Tryz.prog 22 [] (fun rr => rr = ⟨.sl true 2 (foxL.map (eP true)), []⟩) := by
 refine Ctr.of (rs := [.tmp 0]) Tok true Tryz.func22 rfl rfl rfl rfl (by simp [ofDL]) (fun w0 kp => ?_)
 simp only [↓sx0, xE, sevalprocAttr]
 repeat ((with_reducible refine Vc.go ?_ fun _ => ?_); (focus (first | omega | (simp only [InK]; omega) | (simp [InK] <;> omega))); simp only [↓sx0, xE, sevalprocAttr])
 refine EndW.fn ?_ ?_ <;> simp only [sx4, xK, sevalprocAttr] <;> (try simp [foxL, eP, eS]) <;> (try omega)
theorem fox_err : (partsErr foxL).2 = 0 := by kernel_rfl
theorem fox_ins : foxL.set 0 (insP foxL[0] 1 inMk.new) = fox4 := by kernel_rfl
theorem fox4_err : (partsErr fox4).2 = 0 := by kernel_rfl
theorem in_err : mkErr inMk = 0 := by kernel_rfl
theorem out_err : mkErr outMk = 0 := by kernel_rfl
theorem sw_v : swapF (quietP inMk outMk) = ((outMk2, inMk), 0) := by kernel_rfl
theorem kept_v : keptV [3, 1, 2, 1] [1, 2, 4] = ([(1, 0), (2, 1)], 0) := by kernel_rfl
theorem eds_v : edV wdsA wdsB edsL = (2, 0) := by kernel_rfl
theorem awE : (foxL = ([⟨1, [⟨#[116, 104, 101]⟩, ⟨#[113, 117, 105, 99, 107]⟩, ⟨#[102, 111, 120]⟩]⟩] : List Pt)) ∧ (fox4 = ([⟨1, [⟨#[116, 104, 101]⟩, ⟨#[118, 101, 114, 121]⟩, ⟨#[113, 117, 105, 99, 107]⟩, ⟨#[102, 111, 120]⟩]⟩] : List Pt)) ∧ (inMk = (⟨2, 0, 1, ⟨#[]⟩, ⟨#[118, 101, 114, 121]⟩, 0, 0⟩ : Mk)) ∧ (outMk = (⟨1, 0, 3, ⟨#[102, 111, 120]⟩, ⟨#[]⟩, 0, 0⟩ : Mk)) ∧ (outMk2 = (⟨1, 0, 2, ⟨#[102, 111, 120]⟩, ⟨#[]⟩, 0, 0⟩ : Mk)) ∧ (wdsA = ([⟨#[116, 104, 101]⟩, ⟨#[113, 117, 105, 99, 107]⟩, ⟨#[102, 111, 120]⟩] : List ByteArray)) ∧ (wdsB = ([⟨#[97]⟩, ⟨#[113, 117, 105, 99, 107]⟩, ⟨#[114, 101, 100]⟩, ⟨#[102, 111, 120]⟩] : List ByteArray)) ∧ (edsL = ([⟨0, 0⟩, ⟨1, 1⟩, ⟨-1, 2⟩, ⟨2, 3⟩] : List Ed)) := ⟨rfl, rfl, rfl, rfl, rfl, rfl, rfl, rfl⟩
theorem awake_s : Ctr Tryz.prog 5 [] (fun rr => rr = ⟨(.v (.bool (true))), []⟩) := by
 have hA := AppliedIn_s true true foxL inMk 0 1 rfl rfl rfl (by decide) (by decide) (by decide) (by decide) ⟨by decide, by decide⟩ fox_err in_err (by rw [fox_ins]; exact fox4_err)
 rw [fox_ins] at hA
 have hS := SwQ_s inMk outMk ⟨by decide, by decide⟩ ⟨by decide, by decide⟩ in_err out_err (by decide) (by decide) (by decide) (by decide)
 rw [sw_v] at hS
 have hK := kept_s false false [3, 1, 2, 1] [1, 2, 4]
 rw [kept_v] at hK
 have hE := checkEdits_s false false false wdsA wdsB edsL (by unfold AllSz; decide) (by unfold AllSz; decide) (by decide)
 rw [eds_v] at hE
 have encs := And.intro (And.intro encs (show ∀ p, eJ p = [(.v (.int .i64 ((p.1 : Int)))), (.v (.int .i64 ((p.2 : Int))))] from fun _ => rfl)) (And.intro awE prE)
 refine Ctr.of (rs := [.tmp 0]) Tok true Tryz.func5 rfl rfl rfl rfl (by simp [ofDL]) (fun w0 kp => ?_)
 simp only [↓sx0, sxE, encs, sevalprocAttr]
 refine DrawW.plan Tok mixed (.q 1 <| .e 0 [1] <| .e 2 [] <| .q 3 <| .q 4 <| .q 5 <| .q 6 <| .q 7 <| .done) (by kernel_rfl) (by kernel_rfl) ?_
 simp only [↓sx0, sxE, encs, sevalprocAttr]
 refine CallI.fn (fox_s) (by simp only [sx3, encs, sxR, sevalprocAttr] <;> (try simp) <;> (try rfl)) ?_
 simp only [↓sx0, sxE, encs, sevalprocAttr]
 refine CallI.fn (hA) (by simp only [sx3, encs, sxR, sevalprocAttr] <;> (try simp) <;> (try rfl)) ?_
 simp only [↓sx0, sxE, encs, sevalprocAttr]
 refine CallI.fn (hS) (by simp only [sx3, encs, sxR, sevalprocAttr] <;> (try simp) <;> (try rfl)) ?_
 simp only [↓sx0, sxE, encs, sevalprocAttr]
 refine CallI.fn (hK) (by simp only [sx3, encs, sxR, sevalprocAttr] <;> (try simp) <;> (try rfl)) ?_
 simp only [↓sx0, sxE, encs, sevalprocAttr]
 refine CallI.fn (hE) (by simp only [sx3, encs, sxR, sevalprocAttr] <;> (try simp) <;> (try rfl)) ?_
 simp only [↓sx0, sxE, encs, sevalprocAttr]
 refine ⟨by omega, _, rfl, ?_⟩
 simp only [↓sx0, sxE, encs, sevalprocAttr]
 refine CallI.fn (texts_s true false [⟨#[116, 104, 101]⟩, ⟨#[118, 101, 114, 121]⟩, ⟨#[113, 117, 105, 99, 107]⟩, ⟨#[102, 111, 120]⟩] [⟨#[116, 104, 101]⟩, ⟨#[118, 101, 114, 121]⟩, ⟨#[113, 117, 105, 99, 107]⟩, ⟨#[102, 111, 120]⟩] (by decide)) (by simp only [sx3, encs, sxR, sevalprocAttr] <;> (try simp) <;> (try rfl)) ?_
 simp only [↓sx0, sxE, encs, sevalprocAttr]
 repeat ((with_reducible refine Vc.go trivial fun _ => ?_); simp only [↓sx0, sxE, encs, sevalprocAttr])
 refine ⟨by omega, _, rfl, ?_⟩
 simp only [↓sx0, sxE, encs, sevalprocAttr]
 refine EndW.fn ?_ ?_ <;> simp only [sx4, encs, kpLL_map, sxR, sevalprocAttr] <;> (try simp) <;> (try omega)
end Go.Proofs.YtmbemlmkfoblhaaGreatDoor
/-
 Chapter 8: the law of marks' texts.
-/
namespace Go.Proofs.YtmbemlmkfoblhaaGreatDoor
open Go Go.Vx
set_option maxRecDepth 20000
set_option maxHeartbeats 8000000 in
theorem textsLaw_s (m : Mk) (s : ByteArray) (hI : MkI m) : CtrK glob Tryz.prog 3 [mV m, (.v (.string (s)))] (fun rr => rr = ⟨(.v (.bool (true))), []⟩) := by
 refine CtrK.of (rs := [.tmp 4]) Tok true Tryz.func3 rfl rfl rfl rfl (by simp [ofDL]) (fun w0 kp hgl => ?_)
 simp only [↓sx0, xE, sevalprocAttr]
 refine CallI.fn (awake_s) (by simp only [sx3, xR, sevalprocAttr] <;> (try simp) <;> (try rfl)) ?_
 simp only [↓sx0, xE, sevalprocAttr]
 refine CallI.fn (brief_s m) (by simp only [sx3, xR, sevalprocAttr] <;> (try simp) <;> (try rfl)) ?_
 simp only [↓sx0, xE, sevalprocAttr]
 by_cases hb : m.old.size ≤ 40 ∧ m.new.size ≤ 40
 ·refine BrW.yes hb ?_
  simp only [↓sx0, xE, sevalprocAttr]
  refine BrW.dec (fun hl => ?_) (fun hl => ?_)
  ·simp only [↓sx0, xE, sevalprocAttr]
   refine EndW.fn ?_ ?_ <;> simp only [sx4, xK, sevalprocAttr] <;> (try simp) <;> (try omega)
  ·have hsz : s.size ≤ 150 := by omega
   have hbs : s = bs s.data.toList := (bs_data s).symm
   have hll : s.data.toList.length ≤ 150 := hsz
   clear hl
   generalize s.data.toList = l at hbs hll
   subst hbs
   have zM : MkSz m := ⟨by omega, by omega⟩
   have cF := formatMark_s m hI (by omega) (by omega)
   have cG := formatMark_R m hI (by omega) (by omega)
   have cP := parseMark_s l (by omega)
   have cQ := parseMark_R l (by omega)
   have cC := checkMark_s m zM
   have cD := checkMarkR_s m zM
   rw [prsM_same] at cP
   obtain ⟨p, hp⟩ : ∃ p, p = prsM nuR l := ⟨_, rfl⟩
   rw [← hp] at cP cQ
   clear hp
   obtain ⟨y, e⟩ := p
   simp only at cP cQ
   simp only [↓sx0, xE, sevalprocAttr]
   refine CallI.fnK (cF) glob_ok hgl rfl (by simp only [sx3, xR, sevalprocAttr] <;> (try simp) <;> (try rfl)) ?_
   simp only [↓sx0, xE, sevalprocAttr]
   refine CallI.fnK (cP) glob_ok hgl rfl (by simp only [sx3, xR, sevalprocAttr] <;> (try simp) <;> (try rfl)) ?_
   simp only [↓sx0, xE, sevalprocAttr]
   refine CallI.fnK (cQ) glob_ok hgl rfl (by simp only [sx3, xR, sevalprocAttr] <;> (try simp) <;> (try rfl)) ?_
   simp only [↓sx0, xE, sevalprocAttr]
   refine DrawW.plan Tok mixed (.q 0 <| .q 2 <| .e 1 [2] <| .e 3 [] <| .q 4 <| .q 5 <| .q 6 <| .q 7 <| .e 8 [] <| .q 9 <| .q 10 <| .q 11 <| .q 12 <| .q 13 <| .q 14 <| .q 15 <| .q 16 <| .q 17 <| .q 18 <| .q 19 <| .q 20 <| .done) (by kernel_rfl) (by kernel_rfl) ?_
   simp only [↓sx0, xE, sevalprocAttr]
   refine CallI.fn (cC) (by simp only [sx3, xR, sevalprocAttr] <;> (try simp) <;> (try rfl)) ?_
   simp only [↓sx0, xE, sevalprocAttr]
   refine CallI.fn (cD) (by simp only [sx3, xR, sevalprocAttr] <;> (try simp) <;> (try rfl)) ?_
   simp only [↓sx0, xE, sevalprocAttr]
   refine BrW.no (by simp) ?_
   simp only [↓sx0, xE, sevalprocAttr]
   refine CallI.fnK (cG) glob_ok hgl rfl (by simp only [sx3, xR, sevalprocAttr] <;> (try simp) <;> (try rfl)) ?_
   simp only [↓sx0, xE, sevalprocAttr]
   refine BrW.no (by simp) ?_
   simp only [↓sx0, xE, sevalprocAttr]
   refine BrW.no (by simp) ?_
   simp only [↓sx0, xE, sevalprocAttr]
   refine BrW.no (by simp) ?_
   simp only [↓sx0, xE, sevalprocAttr]
   refine CallI.fn (cD) (by simp only [sx3, xR, sevalprocAttr] <;> (try simp) <;> (try rfl)) ?_
   simp only [↓sx0, xE, sevalprocAttr]
   by_cases he : mkErr m = 0
   ·have hT : (mkT m).length ≤ 1000 := by
     have hl := join_len (mkW m) 40 (fun w hw => by
      obtain ⟨h1, h2, h3, h4⟩ := hI
      have l1 := itoa_len h1; have l2 := itoa_len h2; have l3 := itoa_len h3; have l4 := itoa_len h4
      have lo : m.old.data.toList.length ≤ 40 := hb.1
      have ln : m.new.data.toList.length ≤ 40 := hb.2
      have hN : ∀ j, (nmB j).data.toList.length ≤ 40 := fun j => Nat.le_trans (nmB_len j) (by decide)
      unfold mkW at hw
      repeat' split at hw
      all_goals (simp only [List.mem_cons, List.not_mem_nil, or_false] at hw)
      all_goals (first | (rcases hw with rfl | rfl | rfl | rfl | rfl) | (rcases hw with rfl | rfl | rfl | rfl) | (rcases hw with rfl | rfl | rfl) | exact hw.elim)
      all_goals (first | exact hN _ | exact lo | exact ln | exact Nat.le_trans l1 (by decide) | exact Nat.le_trans l2 (by decide) | exact Nat.le_trans l3 (by decide) | exact Nat.le_trans l4 (by decide)))
     have hw5 : (mkW m).length ≤ 5 := by
      unfold mkW
      repeat' split
      all_goals (simp only [List.length_cons, List.length_nil]; omega)
     have : (mkT m).length ≤ (40 + 1) * (mkW m).length := hl
     have := Nat.mul_le_mul_left (40 + 1) hw5
     omega
    have cB := parseMark_s (mkT m) hT
    rw [prsM_same, mk_back he] at cB
    simp only at cB
    refine BrW.no (by simp [he]) ?_
    simp only [↓sx0, xE, sevalprocAttr]
    refine CallI.fnK (cB) glob_ok hgl rfl (by simp only [sx3, xR, sevalprocAttr] <;> (try simp) <;> (try rfl)) ?_
    simp only [↓sx0, xE, sevalprocAttr]
    refine EndW.fn ?_ ?_ <;> simp only [sx4, xK, sevalprocAttr] <;> (try simp) <;> (try omega)
   ·refine BrW.yes he ?_
    simp only [↓sx0, xE, sevalprocAttr]
    refine EndW.fn ?_ ?_ <;> simp only [sx4, xK, sevalprocAttr] <;> (try simp) <;> (try omega)
 ·refine BrW.no hb ?_
  simp only [↓sx0, xE, sevalprocAttr]
  refine EndW.fn ?_ ?_ <;> simp only [sx4, xK, sevalprocAttr] <;> (try simp) <;> (try omega)
end Go.Proofs.YtmbemlmkfoblhaaGreatDoor
