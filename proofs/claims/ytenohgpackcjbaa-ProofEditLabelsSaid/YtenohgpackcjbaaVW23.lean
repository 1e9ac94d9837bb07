/-
  Chapter 8, walks: the laws are awake.
-/
import Derived.Test.YtenohgpackcjbaaVW8
import Derived.Test.YtenohgpackcjbaaVW19
import Derived.Test.YtenohgpackcjbaaVW21
import Derived.Test.YtenohgpackcjbaaVW22
namespace Go.Proofs.Ytenohgpackcjbaa
open Go Go.Vx
set_option linter.unusedSimpArgs false
set_option linter.unusedVariables false
set_option maxRecDepth 20000
def foxL : List Pt := [⟨1, [⟨#[116, 104, 101]⟩, ⟨#[113, 117, 105, 99, 107]⟩, ⟨#[102, 111, 120]⟩]⟩]
def fox4 : List Pt := [⟨1, [⟨#[116, 104, 101]⟩, ⟨#[118, 101, 114, 121]⟩, ⟨#[113, 117, 105, 99, 107]⟩, ⟨#[102, 111, 120]⟩]⟩]
def inMk : Mk := ⟨2, 0, 1, ⟨#[]⟩, ⟨#[118, 101, 114, 121]⟩, 0, 0⟩
def outMk : Mk := ⟨1, 0, 3, ⟨#[102, 111, 120]⟩, ⟨#[]⟩, 0, 0⟩
def outMk2 : Mk := ⟨1, 0, 2, ⟨#[102, 111, 120]⟩, ⟨#[]⟩, 0, 0⟩
def wdsA : List ByteArray := [⟨#[116, 104, 101]⟩, ⟨#[113, 117, 105, 99, 107]⟩, ⟨#[102, 111, 120]⟩]
def wdsB : List ByteArray := [⟨#[97]⟩, ⟨#[113, 117, 105, 99, 107]⟩, ⟨#[114, 101, 100]⟩, ⟨#[102, 111, 120]⟩]
def edsL : List Ed := [⟨0, 0⟩, ⟨1, 1⟩, ⟨-1, 2⟩, ⟨2, 3⟩]
theorem fox_s : Ctr Try.prog 52 [] (fun rr => rr = ⟨.sl true 2 (foxL.map (eP true)), []⟩) := by
  refine Ctr.of (rs := [.tmp 0]) Tok true Try.func52 rfl rfl rfl rfl (by simp [ofDL]) (fun w0 kp => ?_)
  simp only [↓sx0, sx1, encs, tys, sxR, sevalprocAttr]
  repeat ((with_reducible refine Vc.go ?_ fun _ => ?_); (focus (first | omega | (simp only [InK]; omega) | (simp [InK]; done) | (simp [InK]; omega))); simp only [↓sx0, sx1, encs, tys, sxR, sevalprocAttr])
  exact EndW.fn (by simp only [sx4, encs, kpLL_map, sxR, sevalprocAttr] <;> (try simp [foxL, eP, eS]) <;> (try omega)) (by simp only [sx4, encs, kpLL_map, sxR, sevalprocAttr] <;> (try simp) <;> (try omega))
theorem fox_err : (partsErr foxL).2 = 0 := by kernel_rfl
theorem fox_ins : foxL.set 0 (insP foxL[0] 1 inMk.new) = fox4 := by kernel_rfl
theorem fox4_err : (partsErr fox4).2 = 0 := by kernel_rfl
theorem in_err : mkErr inMk = 0 := by kernel_rfl
theorem out_err : mkErr outMk = 0 := by kernel_rfl
theorem sw_v : swE inMk outMk = ((outMk2, inMk), 0) := by kernel_rfl
theorem kept_v : keptV [3, 1, 2, 1] [1, 2, 4] = ([(1, 0), (2, 1)], 0) := by kernel_rfl
theorem eds_v : edV wdsA wdsB edsL = (2, 0) := by kernel_rfl
theorem awE : (foxL = ([⟨1, [⟨#[116, 104, 101]⟩, ⟨#[113, 117, 105, 99, 107]⟩, ⟨#[102, 111, 120]⟩]⟩] : List Pt)) ∧ (fox4 = ([⟨1, [⟨#[116, 104, 101]⟩, ⟨#[118, 101, 114, 121]⟩, ⟨#[113, 117, 105, 99, 107]⟩, ⟨#[102, 111, 120]⟩]⟩] : List Pt)) ∧ (inMk = (⟨2, 0, 1, ⟨#[]⟩, ⟨#[118, 101, 114, 121]⟩, 0, 0⟩ : Mk)) ∧ (outMk = (⟨1, 0, 3, ⟨#[102, 111, 120]⟩, ⟨#[]⟩, 0, 0⟩ : Mk)) ∧ (outMk2 = (⟨1, 0, 2, ⟨#[102, 111, 120]⟩, ⟨#[]⟩, 0, 0⟩ : Mk)) ∧ (wdsA = ([⟨#[116, 104, 101]⟩, ⟨#[113, 117, 105, 99, 107]⟩, ⟨#[102, 111, 120]⟩] : List ByteArray)) ∧ (wdsB = ([⟨#[97]⟩, ⟨#[113, 117, 105, 99, 107]⟩, ⟨#[114, 101, 100]⟩, ⟨#[102, 111, 120]⟩] : List ByteArray)) ∧ (edsL = ([⟨0, 0⟩, ⟨1, 1⟩, ⟨-1, 2⟩, ⟨2, 3⟩] : List Ed)) := ⟨rfl, rfl, rfl, rfl, rfl, rfl, rfl, rfl⟩
theorem awake_s : Ctr Try.prog 15 [] (fun rr => rr = ⟨(.v (.bool (true))), []⟩) := by
  have hA := AppliedIn_s true true foxL inMk 0 1 rfl rfl rfl (by decide) (by decide) (by decide) (by decide) ⟨by decide, by decide⟩ fox_err in_err (by rw [fox_ins]; exact fox4_err)
  rw [fox_ins] at hA
  have hS := Swapped_s inMk outMk ⟨by decide, by decide⟩ ⟨by decide, by decide⟩
  rw [sw_v] at hS
  have hK := kept_s false false [3, 1, 2, 1] [1, 2, 4]
  rw [kept_v] at hK
  have hE := checkEdits_s false false false wdsA wdsB edsL (by unfold AllSz; decide) (by unfold AllSz; decide) (by decide)
  rw [eds_v] at hE
  have encs := And.intro (And.intro encs (show ∀ p, eJ p = [(.v (.int .i64 ((p.1 : Int)))), (.v (.int .i64 ((p.2 : Int))))] from fun _ => rfl)) (And.intro awE prE)
  refine Ctr.of (rs := [.tmp 0]) Tok true Try.func15 rfl rfl rfl rfl (by simp [ofDL]) (fun w0 kp => ?_)
  simp only [↓sx0, sx1, encs, tys, sxR, sevalprocAttr]
  refine DrawW.plan Tok mixed (.q 1 <| .e 0 [1] <| .e 2 [] <| .q 3 <| .q 4 <| .q 5 <| .q 6 <| .q 7 <| .done) (by kernel_rfl) (by kernel_rfl) ?_
  simp only [↓sx0, sx1, encs, tys, sxR, sevalprocAttr]
  refine CallI.fn (fox_s) (by simp only [sx3, encs, sxR, sevalprocAttr] <;> (try simp) <;> (try rfl)) ?_
  simp only [↓sx0, sx1, encs, tys, sxR, sevalprocAttr]
  refine CallI.fn (hA) (by simp only [sx3, encs, sxR, sevalprocAttr] <;> (try simp) <;> (try rfl)) ?_
  simp only [↓sx0, sx1, encs, tys, sxR, sevalprocAttr]
  refine CallI.fn (hS) (by simp only [sx3, encs, sxR, sevalprocAttr] <;> (try simp) <;> (try rfl)) ?_
  simp only [↓sx0, sx1, encs, tys, sxR, sevalprocAttr]
  refine CallI.fn (hK) (by simp only [sx3, encs, sxR, sevalprocAttr] <;> (try simp) <;> (try rfl)) ?_
  simp only [↓sx0, sx1, encs, tys, sxR, sevalprocAttr]
  refine CallI.fn (hE) (by simp only [sx3, encs, sxR, sevalprocAttr] <;> (try simp) <;> (try rfl)) ?_
  simp only [↓sx0, sx1, encs, tys, sxR, sevalprocAttr]
  refine ⟨by omega, _, rfl, ?_⟩
  simp only [↓sx0, sx1, encs, tys, sxR, sevalprocAttr]
  refine CallI.fn (texts_s true false [⟨#[116, 104, 101]⟩, ⟨#[118, 101, 114, 121]⟩, ⟨#[113, 117, 105, 99, 107]⟩, ⟨#[102, 111, 120]⟩] [⟨#[116, 104, 101]⟩, ⟨#[118, 101, 114, 121]⟩, ⟨#[113, 117, 105, 99, 107]⟩, ⟨#[102, 111, 120]⟩] (by decide)) (by simp only [sx3, encs, sxR, sevalprocAttr] <;> (try simp) <;> (try rfl)) ?_
  simp only [↓sx0, sx1, encs, tys, sxR, sevalprocAttr]
  repeat ((with_reducible refine Vc.go trivial fun _ => ?_); simp only [↓sx0, sx1, encs, tys, sxR, sevalprocAttr])
  refine ⟨by omega, _, rfl, ?_⟩
  simp only [↓sx0, sx1, encs, tys, sxR, sevalprocAttr]
  exact EndW.fn (by simp only [sx4, encs, kpLL_map, sxR, sevalprocAttr] <;> (try simp) <;> (try omega)) (by simp only [sx4, encs, kpLL_map, sxR, sevalprocAttr] <;> (try simp) <;> (try omega))
end Go.Proofs.Ytenohgpackcjbaa
