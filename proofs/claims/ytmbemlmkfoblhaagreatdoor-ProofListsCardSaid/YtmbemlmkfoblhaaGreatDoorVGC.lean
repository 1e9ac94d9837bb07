/-
 Chapter 8: a mark's text (the program).
-/
import Derived.Test.YtmbemlmkfoblhaaGreatDoorVGB
set_option linter.unusedSimpArgs false
set_option linter.unusedVariables false
namespace Go.Proofs.YtmbemlmkfoblhaaGreatDoor
open Go Go.Vx
set_option maxRecDepth 20000
structure Cut (G : Prop) : Prop where
 out : G
theorem cutB {G : Nat → Prop} {A : Prop} (br : Cut (∀ β, G β) → A) (tail : ∀ β, G β) : A := br ⟨tail⟩
/-- the words of a mark. -/
def mkW (m : Mk) : List (List UInt8) :=
 if m.mark = 1 then [(nmB 1).data.toList, Lib.itoa m.part, Lib.itoa m.word, m.old.data.toList]
 else if m.mark = 2 then [(nmB 2).data.toList, Lib.itoa m.part, Lib.itoa m.word, m.new.data.toList]
 else if m.mark = 3 then [(nmB 3).data.toList, Lib.itoa m.part, Lib.itoa m.word, m.old.data.toList, m.new.data.toList]
 else if m.mark = 4 then [(nmB 4).data.toList, Lib.itoa m.part, Lib.itoa m.word]
 else if m.mark = 5 then [(nmB 5).data.toList, Lib.itoa m.part, Lib.itoa m.word, Lib.itoa m.kind]
 else if m.mark = 6 then [(nmB 6).data.toList, Lib.itoa m.part, Lib.itoa m.word, Lib.itoa m.kind]
 else if m.mark = 7 then [(nmB 7).data.toList, Lib.itoa m.part, Lib.itoa m.was, Lib.itoa m.kind]
 else []
def mkT (m : Mk) : List UInt8 := Lib.join (mkW m) [32]
def I64 (n : Int) : Prop := -9223372036854775808 ≤ n ∧ n ≤ 9223372036854775807
def MkI (m : Mk) : Prop := I64 m.part ∧ I64 m.word ∧ I64 m.was ∧ I64 m.kind
theorem frE_eq : frE = [[.v (.string ⟨#[]⟩), .v .nilFunc], [.v (.string (nmB 1)), .clo 58 [.pt true [.clo 60 []]]], [.v (.string (nmB 2)), .clo 58 [.pt true [.clo 61 []]]], [.v (.string (nmB 3)), .clo 58 [.pt true [.clo 62 []]]], [.v (.string (nmB 4)), .clo 58 [.pt true [.clo 63 []]]], [.v (.string (nmB 5)), .clo 58 [.pt true [.clo 59 []]]], [.v (.string (nmB 6)), .clo 58 [.pt true [.clo 59 []]]], [.v (.string (nmB 7)), .clo 64 []]] := rfl
set_option maxHeartbeats 8000000 in
theorem formatMark_s (m : Mk) (hI : MkI m) (ho : m.old.size ≤ 1000) (hn : m.new.size ≤ 1000) : CtrK glob Tryz.prog 7 [mV m] (fun rr => rr = ⟨(.v (.string (bs (mkT m)))), []⟩) := by
 have encs := And.intro encs eW_def
 obtain ⟨k, part, word, old, new, was, kind⟩ := m
 obtain ⟨h1, h2, h3, h4⟩ := hI
 have it_part := itoa_s part h1.1 h1.2
 have it_word := itoa_s word h2.1 h2.2
 have it_was := itoa_s was h3.1 h3.2
 have it_kind := itoa_s kind h4.1 h4.2
 have hwl : ∀ w ∈ mkW ⟨k, part, word, old, new, was, kind⟩, w.length ≤ 1000 := fun w hw => by
  have l1 := itoa_len h1; have l2 := itoa_len h2; have l3 := itoa_len h3; have l4 := itoa_len h4
  have lo : old.data.toList.length ≤ 1000 := ho
  have ln : new.data.toList.length ≤ 1000 := hn
  have hb : ∀ j, (nmB j).data.toList.length ≤ 1000 := fun j => by unfold nmB; split <;> decide
  unfold mkW at hw
  repeat' split at hw
  all_goals (simp only [List.mem_cons, List.not_mem_nil, or_false] at hw)
  all_goals (first | (rcases hw with rfl | rfl | rfl | rfl | rfl) | (rcases hw with rfl | rfl | rfl | rfl) | (rcases hw with rfl | rfl | rfl) | exact hw.elim)
  all_goals (first | exact hb _ | exact lo | exact ln | exact Nat.le_trans l1 (by decide) | exact Nat.le_trans l2 (by decide) | exact Nat.le_trans l3 (by decide) | exact Nat.le_trans l4 (by decide))
 refine CtrK.of (rs := [.tmp 2]) Tok true Tryz.func7 rfl rfl rfl rfl (by simp [ofDL]) (fun w0 kp hgl => ?_)
 simp only [↓sx0, sxE, encs, sevalprocAttr]
 refine CallI.fn (within_s k 1 7) (by simp only [sx3, encs, sxR, sevalprocAttr] <;> (try simp) <;> (try rfl)) ?_
 simp only [↓sx0, sxE, encs, sevalprocAttr]
 by_cases hk : 1 ≤ k ∧ k ≤ 7
 ·have h7 : k = 1 ∨ k = 2 ∨ k = 3 ∨ k = 4 ∨ k = 5 ∨ k = 6 ∨ k = 7 := by omega
  refine BrW.yes hk ?_
  rcases h7 with rfl | rfl | rfl | rfl | rfl | rfl | rfl
  ·have hW : mkW ⟨1, part, word, old, new, was, kind⟩ = [(nmB 1).data.toList, Lib.itoa part, Lib.itoa word, old.data.toList] := rfl
   apply @cutB _ _ ?br ?tail
   case br =>
    intro hcut
    simp only [↓sx0, sxE, encs, sevalprocAttr]
    refine DrawW.plan Tok mixed (.q 1 <| .q 2 <| .e2 0 [2] (.q 3 <| .q 4 <| .e 5 [2, 4] <| .e 6 [] <| .done) 5 [2] (.e 0 [2] <| .q 3 <| .q 4 <| .e 6 [] <| .done)) (by kernel_rfl) (by kernel_rfl) ?_
    simp only [↓sx0, sxE, encs, sevalprocAttr]
    repeat' (first | (with_reducible refine And.intro ?_ ?_) | ((with_reducible refine Vc.go ?_ fun _ => ?_); (focus (first | trivial | omega | (simp only [InK]; omega) | (simp [InK] <;> omega))); (try simp only [↓sx0, sxE, encs, sevalprocAttr])) | (refine CallI.fn (forms_s) ?_ ?_; (focus ((simp only [sx3, encs, sxR, sevalprocAttr] <;> (try simp) <;> (try rfl)); done)); (try simp only [↓sx0, sxE, encs, sevalprocAttr])))
    all_goals (
     skip
     refine ⟨by decide, _, by rw [frE_eq]; rfl, ?_⟩
     simp only [↓sx0, sxE, encs, sevalprocAttr]
     refine CallI.bxa 0 (by simp) fun β => ?_
     refine CallI.inlG (rs := [.tmp 3]) Tok (fun h => by first | cases h; done | rfl) Tryz.func58 rfl rfl rfl rfl (by simp) (fun ρ σ μ fr lp => ?_) (by refine ⟨_, ?_, rfl⟩; rfl)
     simp only [↓sx0, sxE, encs, sevalprocAttr]
     refine DrawW.plan Tok mixed (.q 0 <| .q 1 <| .q 2 <| .q 3 <| .q 4 <| .q 5 <| .q 6 <| .q 7 <| .q 9 <| .q 10 <| .e2 8 [9] (.e 11 [] <| .e 12 [] <| .q 13 <| .done) 11 [] (.e 8 [9] <| .e 12 [] <| .q 13 <| .done)) (by kernel_rfl) (by kernel_rfl) ?_
     simp only [↓sx0, sxE, encs, sevalprocAttr]
     refine ⟨?_, ?_⟩
     all_goals (
      skip
      refine CallI.inlG (rs := [.tmp 2]) Tok (fun h => by first | cases h; done | rfl) Tryz.func60 rfl rfl rfl rfl (by simp) (fun ρ σ μ fr lp => ?_) (by refine ⟨_, ?_, rfl⟩; rfl)
      simp only [↓sx0, sxE, encs, sevalprocAttr]
      repeat ((with_reducible refine Vc.go ?_ fun _ => ?_); (focus (first | omega | (simp only [InK]; omega) | (simp [InK] <;> omega))); simp only [↓sx0, sxE, encs, sevalprocAttr])
      refine LoopW.comp [4, 23, 24, 25, 1000000] (by simp only [sx2, encs, sxR, sevalprocAttr] <;> (try simp) <;> (try omega)) ?_
      simp only [sx2, sxR, sevalprocAttr]
      exact hcut.out β ) )
   case tail =>
    intro β
    skip
    refine LoopW.comp [4, 23, 24, 25, 1000000, 2000000] (by simp only [sx2, encs, sxR, sevalprocAttr] <;> (try simp) <;> (try omega)) ?_
    simp only [sx2, sxR, sevalprocAttr]
    refine LoopW.up Tok (fun k : Nat => [(4, .row 0), (25, (.v (.int .i64 ((k : Int)))))]) (fun k => []) (fun k => [(0, ((mkW ⟨1, part, word, old, new, was, kind⟩).take (k + 1)).map eW)]) (fun k => []) (fun k => k ≤ 3) (fun k => 3 - k) (0) (by simp only [sx2, encs, sxR, sevalprocAttr] <;> (try simp [hW, bs_data, encs]) <;> (try omega)) ?_ ?_
    ·omega
    rintro k hk
    simp only [↓sx0, sxE, encs, sevalprocAttr]
    refine BrW.dec (fun hlt => ?_) (fun hlt => ?_)
    ·have hc : k = 0 ∨ k = 1 ∨ k = 2 := by omega
     rcases hc with rfl | rfl | rfl
     ·simp only [↓sx0, sxE, encs, sevalprocAttr]
      repeat ((with_reducible refine Vc.go ?_ fun _ => ?_); (focus (first | omega | (simp only [InK]; omega) | (simp [InK] <;> omega))); simp only [↓sx0, sxE, encs, sevalprocAttr])
      refine ⟨by decide, _, rfl, ?_⟩
      simp only [↓sx0, sxE, encs, sevalprocAttr]
      refine CallI.fnK (it_part) glob_ok hgl rfl (by simp only [sx3, encs, sxR, sevalprocAttr] <;> (try simp) <;> (try rfl)) ?_
      simp only [↓sx0, sxE, encs, sevalprocAttr]
      repeat ((with_reducible refine Vc.go ?_ fun _ => ?_); (focus (first | omega | (simp only [InK]; omega) | (simp [InK] <;> omega))); simp only [↓sx0, sxE, encs, sevalprocAttr])
      refine ⟨1, StLe.auto (by simp only [sx2, encs, sxR, sevalprocAttr] <;> (try simp [hW, eW, bs, bs_data, encs]) <;> (try omega)), ?_, ?_⟩
      all_goals omega
     ·simp only [↓sx0, sxE, encs, sevalprocAttr]
      repeat ((with_reducible refine Vc.go ?_ fun _ => ?_); (focus (first | omega | (simp only [InK]; omega) | (simp [InK] <;> omega))); simp only [↓sx0, sxE, encs, sevalprocAttr])
      refine ⟨by decide, _, rfl, ?_⟩
      simp only [↓sx0, sxE, encs, sevalprocAttr]
      refine CallI.fnK (it_word) glob_ok hgl rfl (by simp only [sx3, encs, sxR, sevalprocAttr] <;> (try simp) <;> (try rfl)) ?_
      simp only [↓sx0, sxE, encs, sevalprocAttr]
      repeat ((with_reducible refine Vc.go ?_ fun _ => ?_); (focus (first | omega | (simp only [InK]; omega) | (simp [InK] <;> omega))); simp only [↓sx0, sxE, encs, sevalprocAttr])
      refine ⟨2, StLe.auto (by simp only [sx2, encs, sxR, sevalprocAttr] <;> (try simp [hW, eW, bs, bs_data, encs]) <;> (try omega)), ?_, ?_⟩
      all_goals omega
     ·simp only [↓sx0, sxE, encs, sevalprocAttr]
      repeat ((with_reducible refine Vc.go ?_ fun _ => ?_); (focus (first | omega | (simp only [InK]; omega) | (simp [InK] <;> omega))); simp only [↓sx0, sxE, encs, sevalprocAttr])
      refine ⟨by decide, _, rfl, ?_⟩
      simp only [↓sx0, sxE, encs, sevalprocAttr]
      repeat ((with_reducible refine Vc.go ?_ fun _ => ?_); (focus (first | omega | (simp only [InK]; omega) | (simp [InK] <;> omega))); simp only [↓sx0, sxE, encs, sevalprocAttr])
      refine ⟨3, StLe.auto (by simp only [sx2, encs, sxR, sevalprocAttr] <;> (try simp [hW, eW, bs, bs_data, encs]) <;> (try omega)), ?_, ?_⟩
      all_goals omega
    ·have hke : k = 3 := by omega
     subst hke
     have hjn := join_T false (mkW ⟨1, part, word, old, new, was, kind⟩) (by rw [hW]; simp) (by
      have := join_len (mkW ⟨1, part, word, old, new, was, kind⟩) 1000 hwl
      rw [hW] at this ⊢
      simp only [List.length_cons, List.length_nil] at this
      omega)
     rw [show (mkW ⟨1, part, word, old, new, was, kind⟩).take (3 + 1) = mkW ⟨1, part, word, old, new, was, kind⟩ from rfl]
     simp only [↓sx0, sxE, encs, sevalprocAttr]
     refine CallI.fn (hjn) (by simp only [sx3, encs, sxR, sevalprocAttr] <;> (try simp) <;> (try rfl)) ?_
     simp only [↓sx0, sxE, encs, sevalprocAttr]
     refine EndW.fn ?_ ?_ <;> simp only [sx4, encs, kpLL_map, sxR, sevalprocAttr] <;> (try simp [mkT]) <;> (try omega)
  ·have hW : mkW ⟨2, part, word, old, new, was, kind⟩ = [(nmB 2).data.toList, Lib.itoa part, Lib.itoa word, new.data.toList] := rfl
   apply @cutB _ _ ?br ?tail
   case br =>
    intro hcut
    simp only [↓sx0, sxE, encs, sevalprocAttr]
    refine DrawW.plan Tok mixed (.q 1 <| .q 2 <| .e2 0 [2] (.q 3 <| .q 4 <| .e 5 [2, 4] <| .e 6 [] <| .done) 5 [2] (.e 0 [2] <| .q 3 <| .q 4 <| .e 6 [] <| .done)) (by kernel_rfl) (by kernel_rfl) ?_
    simp only [↓sx0, sxE, encs, sevalprocAttr]
    repeat' (first | (with_reducible refine And.intro ?_ ?_) | ((with_reducible refine Vc.go ?_ fun _ => ?_); (focus (first | trivial | omega | (simp only [InK]; omega) | (simp [InK] <;> omega))); (try simp only [↓sx0, sxE, encs, sevalprocAttr])) | (refine CallI.fn (forms_s) ?_ ?_; (focus ((simp only [sx3, encs, sxR, sevalprocAttr] <;> (try simp) <;> (try rfl)); done)); (try simp only [↓sx0, sxE, encs, sevalprocAttr])))
    all_goals (
     skip
     refine ⟨by decide, _, by rw [frE_eq]; rfl, ?_⟩
     simp only [↓sx0, sxE, encs, sevalprocAttr]
     refine CallI.bxa 0 (by simp) fun β => ?_
     refine CallI.inlG (rs := [.tmp 3]) Tok (fun h => by first | cases h; done | rfl) Tryz.func58 rfl rfl rfl rfl (by simp) (fun ρ σ μ fr lp => ?_) (by refine ⟨_, ?_, rfl⟩; rfl)
     simp only [↓sx0, sxE, encs, sevalprocAttr]
     refine DrawW.plan Tok mixed (.q 0 <| .q 1 <| .q 2 <| .q 3 <| .q 4 <| .q 5 <| .q 6 <| .q 7 <| .q 9 <| .q 10 <| .e2 8 [9] (.e 11 [] <| .e 12 [] <| .q 13 <| .done) 11 [] (.e 8 [9] <| .e 12 [] <| .q 13 <| .done)) (by kernel_rfl) (by kernel_rfl) ?_
     simp only [↓sx0, sxE, encs, sevalprocAttr]
     refine ⟨?_, ?_⟩
     all_goals (
      skip
      refine CallI.inlG (rs := [.tmp 2]) Tok (fun h => by first | cases h; done | rfl) Tryz.func61 rfl rfl rfl rfl (by simp) (fun ρ σ μ fr lp => ?_) (by refine ⟨_, ?_, rfl⟩; rfl)
      simp only [↓sx0, sxE, encs, sevalprocAttr]
      repeat ((with_reducible refine Vc.go ?_ fun _ => ?_); (focus (first | omega | (simp only [InK]; omega) | (simp [InK] <;> omega))); simp only [↓sx0, sxE, encs, sevalprocAttr])
      refine LoopW.comp [4, 23, 24, 25, 1000000] (by simp only [sx2, encs, sxR, sevalprocAttr] <;> (try simp) <;> (try omega)) ?_
      simp only [sx2, sxR, sevalprocAttr]
      exact hcut.out β ) )
   case tail =>
    intro β
    skip
    refine LoopW.comp [4, 23, 24, 25, 1000000, 2000000] (by simp only [sx2, encs, sxR, sevalprocAttr] <;> (try simp) <;> (try omega)) ?_
    simp only [sx2, sxR, sevalprocAttr]
    refine LoopW.up Tok (fun k : Nat => [(4, .row 0), (25, (.v (.int .i64 ((k : Int)))))]) (fun k => []) (fun k => [(0, ((mkW ⟨2, part, word, old, new, was, kind⟩).take (k + 1)).map eW)]) (fun k => []) (fun k => k ≤ 3) (fun k => 3 - k) (0) (by simp only [sx2, encs, sxR, sevalprocAttr] <;> (try simp [hW, bs_data, encs]) <;> (try omega)) ?_ ?_
    ·omega
    rintro k hk
    simp only [↓sx0, sxE, encs, sevalprocAttr]
    refine BrW.dec (fun hlt => ?_) (fun hlt => ?_)
    ·have hc : k = 0 ∨ k = 1 ∨ k = 2 := by omega
     rcases hc with rfl | rfl | rfl
     ·simp only [↓sx0, sxE, encs, sevalprocAttr]
      repeat ((with_reducible refine Vc.go ?_ fun _ => ?_); (focus (first | omega | (simp only [InK]; omega) | (simp [InK] <;> omega))); simp only [↓sx0, sxE, encs, sevalprocAttr])
      refine ⟨by decide, _, rfl, ?_⟩
      simp only [↓sx0, sxE, encs, sevalprocAttr]
      refine CallI.fnK (it_part) glob_ok hgl rfl (by simp only [sx3, encs, sxR, sevalprocAttr] <;> (try simp) <;> (try rfl)) ?_
      simp only [↓sx0, sxE, encs, sevalprocAttr]
      repeat ((with_reducible refine Vc.go ?_ fun _ => ?_); (focus (first | omega | (simp only [InK]; omega) | (simp [InK] <;> omega))); simp only [↓sx0, sxE, encs, sevalprocAttr])
      refine ⟨1, StLe.auto (by simp only [sx2, encs, sxR, sevalprocAttr] <;> (try simp [hW, eW, bs, bs_data, encs]) <;> (try omega)), ?_, ?_⟩
      all_goals omega
     ·simp only [↓sx0, sxE, encs, sevalprocAttr]
      repeat ((with_reducible refine Vc.go ?_ fun _ => ?_); (focus (first | omega | (simp only [InK]; omega) | (simp [InK] <;> omega))); simp only [↓sx0, sxE, encs, sevalprocAttr])
      refine ⟨by decide, _, rfl, ?_⟩
      simp only [↓sx0, sxE, encs, sevalprocAttr]
      refine CallI.fnK (it_word) glob_ok hgl rfl (by simp only [sx3, encs, sxR, sevalprocAttr] <;> (try simp) <;> (try rfl)) ?_
      simp only [↓sx0, sxE, encs, sevalprocAttr]
      repeat ((with_reducible refine Vc.go ?_ fun _ => ?_); (focus (first | omega | (simp only [InK]; omega) | (simp [InK] <;> omega))); simp only [↓sx0, sxE, encs, sevalprocAttr])
      refine ⟨2, StLe.auto (by simp only [sx2, encs, sxR, sevalprocAttr] <;> (try simp [hW, eW, bs, bs_data, encs]) <;> (try omega)), ?_, ?_⟩
      all_goals omega
     ·simp only [↓sx0, sxE, encs, sevalprocAttr]
      repeat ((with_reducible refine Vc.go ?_ fun _ => ?_); (focus (first | omega | (simp only [InK]; omega) | (simp [InK] <;> omega))); simp only [↓sx0, sxE, encs, sevalprocAttr])
      refine ⟨by decide, _, rfl, ?_⟩
      simp only [↓sx0, sxE, encs, sevalprocAttr]
      repeat ((with_reducible refine Vc.go ?_ fun _ => ?_); (focus (first | omega | (simp only [InK]; omega) | (simp [InK] <;> omega))); simp only [↓sx0, sxE, encs, sevalprocAttr])
      refine ⟨3, StLe.auto (by simp only [sx2, encs, sxR, sevalprocAttr] <;> (try simp [hW, eW, bs, bs_data, encs]) <;> (try omega)), ?_, ?_⟩
      all_goals omega
    ·have hke : k = 3 := by omega
     subst hke
     have hjn := join_T false (mkW ⟨2, part, word, old, new, was, kind⟩) (by rw [hW]; simp) (by
      have := join_len (mkW ⟨2, part, word, old, new, was, kind⟩) 1000 hwl
      rw [hW] at this ⊢
      simp only [List.length_cons, List.length_nil] at this
      omega)
     rw [show (mkW ⟨2, part, word, old, new, was, kind⟩).take (3 + 1) = mkW ⟨2, part, word, old, new, was, kind⟩ from rfl]
     simp only [↓sx0, sxE, encs, sevalprocAttr]
     refine CallI.fn (hjn) (by simp only [sx3, encs, sxR, sevalprocAttr] <;> (try simp) <;> (try rfl)) ?_
     simp only [↓sx0, sxE, encs, sevalprocAttr]
     refine EndW.fn ?_ ?_ <;> simp only [sx4, encs, kpLL_map, sxR, sevalprocAttr] <;> (try simp [mkT]) <;> (try omega)
  ·have hW : mkW ⟨3, part, word, old, new, was, kind⟩ = [(nmB 3).data.toList, Lib.itoa part, Lib.itoa word, old.data.toList, new.data.toList] := rfl
   apply @cutB _ _ ?br ?tail
   case br =>
    intro hcut
    simp only [↓sx0, sxE, encs, sevalprocAttr]
    refine DrawW.plan Tok mixed (.q 1 <| .q 2 <| .e2 0 [2] (.q 3 <| .q 4 <| .e 5 [2, 4] <| .e 6 [] <| .done) 5 [2] (.e 0 [2] <| .q 3 <| .q 4 <| .e 6 [] <| .done)) (by kernel_rfl) (by kernel_rfl) ?_
    simp only [↓sx0, sxE, encs, sevalprocAttr]
    repeat' (first | (with_reducible refine And.intro ?_ ?_) | ((with_reducible refine Vc.go ?_ fun _ => ?_); (focus (first | trivial | omega | (simp only [InK]; omega) | (simp [InK] <;> omega))); (try simp only [↓sx0, sxE, encs, sevalprocAttr])) | (refine CallI.fn (forms_s) ?_ ?_; (focus ((simp only [sx3, encs, sxR, sevalprocAttr] <;> (try simp) <;> (try rfl)); done)); (try simp only [↓sx0, sxE, encs, sevalprocAttr])))
    all_goals (
     skip
     refine ⟨by decide, _, by rw [frE_eq]; rfl, ?_⟩
     simp only [↓sx0, sxE, encs, sevalprocAttr]
     refine CallI.bxa 0 (by simp) fun β => ?_
     refine CallI.inlG (rs := [.tmp 3]) Tok (fun h => by first | cases h; done | rfl) Tryz.func58 rfl rfl rfl rfl (by simp) (fun ρ σ μ fr lp => ?_) (by refine ⟨_, ?_, rfl⟩; rfl)
     simp only [↓sx0, sxE, encs, sevalprocAttr]
     refine DrawW.plan Tok mixed (.q 0 <| .q 1 <| .q 2 <| .q 3 <| .q 4 <| .q 5 <| .q 6 <| .q 7 <| .q 9 <| .q 10 <| .e2 8 [9] (.e 11 [] <| .e 12 [] <| .q 13 <| .done) 11 [] (.e 8 [9] <| .e 12 [] <| .q 13 <| .done)) (by kernel_rfl) (by kernel_rfl) ?_
     simp only [↓sx0, sxE, encs, sevalprocAttr]
     refine ⟨?_, ?_⟩
     all_goals (
      skip
      refine CallI.inlG (rs := [.tmp 2]) Tok (fun h => by first | cases h; done | rfl) Tryz.func62 rfl rfl rfl rfl (by simp) (fun ρ σ μ fr lp => ?_) (by refine ⟨_, ?_, rfl⟩; rfl)
      simp only [↓sx0, sxE, encs, sevalprocAttr]
      refine DrawW.plan Tok mixed (.q 0 <| .q 1 <| .q 2 <| .q 3 <| .q 4 <| .q 5 <| .q 6 <| .q 7 <| .e 8 [] <| .q 9 <| .done) (by kernel_rfl) (by kernel_rfl) ?_
      simp only [↓sx0, sxE, encs, sevalprocAttr]
      repeat ((with_reducible refine Vc.go ?_ fun _ => ?_); (focus (first | omega | (simp only [InK]; omega) | (simp [InK] <;> omega))); simp only [↓sx0, sxE, encs, sevalprocAttr])
      refine LoopW.comp [4, 23, 24, 25, 1000000] (by simp only [sx2, encs, sxR, sevalprocAttr] <;> (try simp) <;> (try omega)) ?_
      simp only [sx2, sxR, sevalprocAttr]
      exact hcut.out β ) )
   case tail =>
    intro β
    skip
    refine LoopW.comp [4, 23, 24, 25, 1000000, 2000000] (by simp only [sx2, encs, sxR, sevalprocAttr] <;> (try simp) <;> (try omega)) ?_
    simp only [sx2, sxR, sevalprocAttr]
    refine LoopW.up Tok (fun k : Nat => [(4, .row 0), (25, (.v (.int .i64 ((k : Int)))))]) (fun k => []) (fun k => [(0, ((mkW ⟨3, part, word, old, new, was, kind⟩).take (k + 1)).map eW)]) (fun k => []) (fun k => k ≤ 4) (fun k => 4 - k) (0) (by simp only [sx2, encs, sxR, sevalprocAttr] <;> (try simp [hW, bs_data, encs]) <;> (try omega)) ?_ ?_
    ·omega
    rintro k hk
    simp only [↓sx0, sxE, encs, sevalprocAttr]
    refine BrW.dec (fun hlt => ?_) (fun hlt => ?_)
    ·have hc : k = 0 ∨ k = 1 ∨ k = 2 ∨ k = 3 := by omega
     rcases hc with rfl | rfl | rfl | rfl
     ·simp only [↓sx0, sxE, encs, sevalprocAttr]
      repeat ((with_reducible refine Vc.go ?_ fun _ => ?_); (focus (first | omega | (simp only [InK]; omega) | (simp [InK] <;> omega))); simp only [↓sx0, sxE, encs, sevalprocAttr])
      refine ⟨by decide, _, rfl, ?_⟩
      simp only [↓sx0, sxE, encs, sevalprocAttr]
      refine CallI.fnK (it_part) glob_ok hgl rfl (by simp only [sx3, encs, sxR, sevalprocAttr] <;> (try simp) <;> (try rfl)) ?_
      simp only [↓sx0, sxE, encs, sevalprocAttr]
      repeat ((with_reducible refine Vc.go ?_ fun _ => ?_); (focus (first | omega | (simp only [InK]; omega) | (simp [InK] <;> omega))); simp only [↓sx0, sxE, encs, sevalprocAttr])
      refine ⟨1, StLe.auto (by simp only [sx2, encs, sxR, sevalprocAttr] <;> (try simp [hW, eW, bs, bs_data, encs]) <;> (try omega)), ?_, ?_⟩
      all_goals omega
     ·simp only [↓sx0, sxE, encs, sevalprocAttr]
      repeat ((with_reducible refine Vc.go ?_ fun _ => ?_); (focus (first | omega | (simp only [InK]; omega) | (simp [InK] <;> omega))); simp only [↓sx0, sxE, encs, sevalprocAttr])
      refine ⟨by decide, _, rfl, ?_⟩
      simp only [↓sx0, sxE, encs, sevalprocAttr]
      refine CallI.fnK (it_word) glob_ok hgl rfl (by simp only [sx3, encs, sxR, sevalprocAttr] <;> (try simp) <;> (try rfl)) ?_
      simp only [↓sx0, sxE, encs, sevalprocAttr]
      repeat ((with_reducible refine Vc.go ?_ fun _ => ?_); (focus (first | omega | (simp only [InK]; omega) | (simp [InK] <;> omega))); simp only [↓sx0, sxE, encs, sevalprocAttr])
      refine ⟨2, StLe.auto (by simp only [sx2, encs, sxR, sevalprocAttr] <;> (try simp [hW, eW, bs, bs_data, encs]) <;> (try omega)), ?_, ?_⟩
      all_goals omega
     ·simp only [↓sx0, sxE, encs, sevalprocAttr]
      repeat ((with_reducible refine Vc.go ?_ fun _ => ?_); (focus (first | omega | (simp only [InK]; omega) | (simp [InK] <;> omega))); simp only [↓sx0, sxE, encs, sevalprocAttr])
      refine ⟨by decide, _, rfl, ?_⟩
      simp only [↓sx0, sxE, encs, sevalprocAttr]
      repeat ((with_reducible refine Vc.go ?_ fun _ => ?_); (focus (first | omega | (simp only [InK]; omega) | (simp [InK] <;> omega))); simp only [↓sx0, sxE, encs, sevalprocAttr])
      refine ⟨3, StLe.auto (by simp only [sx2, encs, sxR, sevalprocAttr] <;> (try simp [hW, eW, bs, bs_data, encs]) <;> (try omega)), ?_, ?_⟩
      all_goals omega
     ·simp only [↓sx0, sxE, encs, sevalprocAttr]
      repeat ((with_reducible refine Vc.go ?_ fun _ => ?_); (focus (first | omega | (simp only [InK]; omega) | (simp [InK] <;> omega))); simp only [↓sx0, sxE, encs, sevalprocAttr])
      refine ⟨by decide, _, rfl, ?_⟩
      simp only [↓sx0, sxE, encs, sevalprocAttr]
      repeat ((with_reducible refine Vc.go ?_ fun _ => ?_); (focus (first | omega | (simp only [InK]; omega) | (simp [InK] <;> omega))); simp only [↓sx0, sxE, encs, sevalprocAttr])
      refine ⟨4, StLe.auto (by simp only [sx2, encs, sxR, sevalprocAttr] <;> (try simp [hW, eW, bs, bs_data, encs]) <;> (try omega)), ?_, ?_⟩
      all_goals omega
    ·have hke : k = 4 := by omega
     subst hke
     have hjn := join_T false (mkW ⟨3, part, word, old, new, was, kind⟩) (by rw [hW]; simp) (by
      have := join_len (mkW ⟨3, part, word, old, new, was, kind⟩) 1000 hwl
      rw [hW] at this ⊢
      simp only [List.length_cons, List.length_nil] at this
      omega)
     rw [show (mkW ⟨3, part, word, old, new, was, kind⟩).take (4 + 1) = mkW ⟨3, part, word, old, new, was, kind⟩ from rfl]
     simp only [↓sx0, sxE, encs, sevalprocAttr]
     refine CallI.fn (hjn) (by simp only [sx3, encs, sxR, sevalprocAttr] <;> (try simp) <;> (try rfl)) ?_
     simp only [↓sx0, sxE, encs, sevalprocAttr]
     refine EndW.fn ?_ ?_ <;> simp only [sx4, encs, kpLL_map, sxR, sevalprocAttr] <;> (try simp [mkT]) <;> (try omega)
  ·have hW : mkW ⟨4, part, word, old, new, was, kind⟩ = [(nmB 4).data.toList, Lib.itoa part, Lib.itoa word] := rfl
   apply @cutB _ _ ?br ?tail
   case br =>
    intro hcut
    simp only [↓sx0, sxE, encs, sevalprocAttr]
    refine DrawW.plan Tok mixed (.q 1 <| .q 2 <| .e2 0 [2] (.q 3 <| .q 4 <| .e 5 [2, 4] <| .e 6 [] <| .done) 5 [2] (.e 0 [2] <| .q 3 <| .q 4 <| .e 6 [] <| .done)) (by kernel_rfl) (by kernel_rfl) ?_
    simp only [↓sx0, sxE, encs, sevalprocAttr]
    repeat' (first | (with_reducible refine And.intro ?_ ?_) | ((with_reducible refine Vc.go ?_ fun _ => ?_); (focus (first | trivial | omega | (simp only [InK]; omega) | (simp [InK] <;> omega))); (try simp only [↓sx0, sxE, encs, sevalprocAttr])) | (refine CallI.fn (forms_s) ?_ ?_; (focus ((simp only [sx3, encs, sxR, sevalprocAttr] <;> (try simp) <;> (try rfl)); done)); (try simp only [↓sx0, sxE, encs, sevalprocAttr])))
    all_goals (
     skip
     refine ⟨by decide, _, by rw [frE_eq]; rfl, ?_⟩
     simp only [↓sx0, sxE, encs, sevalprocAttr]
     refine CallI.bxa 0 (by simp) fun β => ?_
     refine CallI.inlG (rs := [.tmp 3]) Tok (fun h => by first | cases h; done | rfl) Tryz.func58 rfl rfl rfl rfl (by simp) (fun ρ σ μ fr lp => ?_) (by refine ⟨_, ?_, rfl⟩; rfl)
     simp only [↓sx0, sxE, encs, sevalprocAttr]
     refine DrawW.plan Tok mixed (.q 0 <| .q 1 <| .q 2 <| .q 3 <| .q 4 <| .q 5 <| .q 6 <| .q 7 <| .q 9 <| .q 10 <| .e2 8 [9] (.e 11 [] <| .e 12 [] <| .q 13 <| .done) 11 [] (.e 8 [9] <| .e 12 [] <| .q 13 <| .done)) (by kernel_rfl) (by kernel_rfl) ?_
     simp only [↓sx0, sxE, encs, sevalprocAttr]
     refine ⟨?_, ?_⟩
     all_goals (
      skip
      refine CallI.inlG (rs := [.tmp 2]) Tok (fun h => by first | cases h; done | rfl) Tryz.func63 rfl rfl rfl rfl (by simp) (fun ρ σ μ fr lp => ?_) (by refine ⟨_, ?_, rfl⟩; rfl)
      simp only [↓sx0, sxE, encs, sevalprocAttr]
      repeat ((with_reducible refine Vc.go ?_ fun _ => ?_); (focus (first | omega | (simp only [InK]; omega) | (simp [InK] <;> omega))); simp only [↓sx0, sxE, encs, sevalprocAttr])
      refine LoopW.comp [4, 23, 24, 25, 1000000] (by simp only [sx2, encs, sxR, sevalprocAttr] <;> (try simp) <;> (try omega)) ?_
      simp only [sx2, sxR, sevalprocAttr]
      exact hcut.out β ) )
   case tail =>
    intro β
    skip
    refine LoopW.comp [4, 23, 24, 25, 1000000, 2000000] (by simp only [sx2, encs, sxR, sevalprocAttr] <;> (try simp) <;> (try omega)) ?_
    simp only [sx2, sxR, sevalprocAttr]
    refine LoopW.up Tok (fun k : Nat => [(4, .row 0), (25, (.v (.int .i64 ((k : Int)))))]) (fun k => []) (fun k => [(0, ((mkW ⟨4, part, word, old, new, was, kind⟩).take (k + 1)).map eW)]) (fun k => []) (fun k => k ≤ 2) (fun k => 2 - k) (0) (by simp only [sx2, encs, sxR, sevalprocAttr] <;> (try simp [hW, bs_data, encs]) <;> (try omega)) ?_ ?_
    ·omega
    rintro k hk
    simp only [↓sx0, sxE, encs, sevalprocAttr]
    refine BrW.dec (fun hlt => ?_) (fun hlt => ?_)
    ·have hc : k = 0 ∨ k = 1 := by omega
     rcases hc with rfl | rfl
     ·simp only [↓sx0, sxE, encs, sevalprocAttr]
      repeat ((with_reducible refine Vc.go ?_ fun _ => ?_); (focus (first | omega | (simp only [InK]; omega) | (simp [InK] <;> omega))); simp only [↓sx0, sxE, encs, sevalprocAttr])
      refine ⟨by decide, _, rfl, ?_⟩
      simp only [↓sx0, sxE, encs, sevalprocAttr]
      refine CallI.fnK (it_part) glob_ok hgl rfl (by simp only [sx3, encs, sxR, sevalprocAttr] <;> (try simp) <;> (try rfl)) ?_
      simp only [↓sx0, sxE, encs, sevalprocAttr]
      repeat ((with_reducible refine Vc.go ?_ fun _ => ?_); (focus (first | omega | (simp only [InK]; omega) | (simp [InK] <;> omega))); simp only [↓sx0, sxE, encs, sevalprocAttr])
      refine ⟨1, StLe.auto (by simp only [sx2, encs, sxR, sevalprocAttr] <;> (try simp [hW, eW, bs, bs_data, encs]) <;> (try omega)), ?_, ?_⟩
      all_goals omega
     ·simp only [↓sx0, sxE, encs, sevalprocAttr]
      repeat ((with_reducible refine Vc.go ?_ fun _ => ?_); (focus (first | omega | (simp only [InK]; omega) | (simp [InK] <;> omega))); simp only [↓sx0, sxE, encs, sevalprocAttr])
      refine ⟨by decide, _, rfl, ?_⟩
      simp only [↓sx0, sxE, encs, sevalprocAttr]
      refine CallI.fnK (it_word) glob_ok hgl rfl (by simp only [sx3, encs, sxR, sevalprocAttr] <;> (try simp) <;> (try rfl)) ?_
      simp only [↓sx0, sxE, encs, sevalprocAttr]
      repeat ((with_reducible refine Vc.go ?_ fun _ => ?_); (focus (first | omega | (simp only [InK]; omega) | (simp [InK] <;> omega))); simp only [↓sx0, sxE, encs, sevalprocAttr])
      refine ⟨2, StLe.auto (by simp only [sx2, encs, sxR, sevalprocAttr] <;> (try simp [hW, eW, bs, bs_data, encs]) <;> (try omega)), ?_, ?_⟩
      all_goals omega
    ·have hke : k = 2 := by omega
     subst hke
     have hjn := join_T false (mkW ⟨4, part, word, old, new, was, kind⟩) (by rw [hW]; simp) (by
      have := join_len (mkW ⟨4, part, word, old, new, was, kind⟩) 1000 hwl
      rw [hW] at this ⊢
      simp only [List.length_cons, List.length_nil] at this
      omega)
     rw [show (mkW ⟨4, part, word, old, new, was, kind⟩).take (2 + 1) = mkW ⟨4, part, word, old, new, was, kind⟩ from rfl]
     simp only [↓sx0, sxE, encs, sevalprocAttr]
     refine CallI.fn (hjn) (by simp only [sx3, encs, sxR, sevalprocAttr] <;> (try simp) <;> (try rfl)) ?_
     simp only [↓sx0, sxE, encs, sevalprocAttr]
     refine EndW.fn ?_ ?_ <;> simp only [sx4, encs, kpLL_map, sxR, sevalprocAttr] <;> (try simp [mkT]) <;> (try omega)
  ·have hW : mkW ⟨5, part, word, old, new, was, kind⟩ = [(nmB 5).data.toList, Lib.itoa part, Lib.itoa word, Lib.itoa kind] := rfl
   apply @cutB _ _ ?br ?tail
   case br =>
    intro hcut
    simp only [↓sx0, sxE, encs, sevalprocAttr]
    refine DrawW.plan Tok mixed (.q 1 <| .q 2 <| .e2 0 [2] (.q 3 <| .q 4 <| .e 5 [2, 4] <| .e 6 [] <| .done) 5 [2] (.e 0 [2] <| .q 3 <| .q 4 <| .e 6 [] <| .done)) (by kernel_rfl) (by kernel_rfl) ?_
    simp only [↓sx0, sxE, encs, sevalprocAttr]
    repeat' (first | (with_reducible refine And.intro ?_ ?_) | ((with_reducible refine Vc.go ?_ fun _ => ?_); (focus (first | trivial | omega | (simp only [InK]; omega) | (simp [InK] <;> omega))); (try simp only [↓sx0, sxE, encs, sevalprocAttr])) | (refine CallI.fn (forms_s) ?_ ?_; (focus ((simp only [sx3, encs, sxR, sevalprocAttr] <;> (try simp) <;> (try rfl)); done)); (try simp only [↓sx0, sxE, encs, sevalprocAttr])))
    all_goals (
     skip
     refine ⟨by decide, _, by rw [frE_eq]; rfl, ?_⟩
     simp only [↓sx0, sxE, encs, sevalprocAttr]
     refine CallI.bxa 0 (by simp) fun β => ?_
     refine CallI.inlG (rs := [.tmp 3]) Tok (fun h => by first | cases h; done | rfl) Tryz.func58 rfl rfl rfl rfl (by simp) (fun ρ σ μ fr lp => ?_) (by refine ⟨_, ?_, rfl⟩; rfl)
     simp only [↓sx0, sxE, encs, sevalprocAttr]
     refine DrawW.plan Tok mixed (.q 0 <| .q 1 <| .q 2 <| .q 3 <| .q 4 <| .q 5 <| .q 6 <| .q 7 <| .q 9 <| .q 10 <| .e2 8 [9] (.e 11 [] <| .e 12 [] <| .q 13 <| .done) 11 [] (.e 8 [9] <| .e 12 [] <| .q 13 <| .done)) (by kernel_rfl) (by kernel_rfl) ?_
     simp only [↓sx0, sxE, encs, sevalprocAttr]
     refine ⟨?_, ?_⟩
     all_goals (
      skip
      refine CallI.inlG (rs := [.tmp 2]) Tok (fun h => by first | cases h; done | rfl) Tryz.func59 rfl rfl rfl rfl (by simp) (fun ρ σ μ fr lp => ?_) (by refine ⟨_, ?_, rfl⟩; rfl)
      simp only [↓sx0, sxE, encs, sevalprocAttr]
      repeat ((with_reducible refine Vc.go ?_ fun _ => ?_); (focus (first | omega | (simp only [InK]; omega) | (simp [InK] <;> omega))); simp only [↓sx0, sxE, encs, sevalprocAttr])
      refine LoopW.comp [4, 23, 24, 25, 1000000] (by simp only [sx2, encs, sxR, sevalprocAttr] <;> (try simp) <;> (try omega)) ?_
      simp only [sx2, sxR, sevalprocAttr]
      exact hcut.out β ) )
   case tail =>
    intro β
    skip
    refine LoopW.comp [4, 23, 24, 25, 1000000, 2000000] (by simp only [sx2, encs, sxR, sevalprocAttr] <;> (try simp) <;> (try omega)) ?_
    simp only [sx2, sxR, sevalprocAttr]
    refine LoopW.up Tok (fun k : Nat => [(4, .row 0), (25, (.v (.int .i64 ((k : Int)))))]) (fun k => []) (fun k => [(0, ((mkW ⟨5, part, word, old, new, was, kind⟩).take (k + 1)).map eW)]) (fun k => []) (fun k => k ≤ 3) (fun k => 3 - k) (0) (by simp only [sx2, encs, sxR, sevalprocAttr] <;> (try simp [hW, bs_data, encs]) <;> (try omega)) ?_ ?_
    ·omega
    rintro k hk
    simp only [↓sx0, sxE, encs, sevalprocAttr]
    refine BrW.dec (fun hlt => ?_) (fun hlt => ?_)
    ·have hc : k = 0 ∨ k = 1 ∨ k = 2 := by omega
     rcases hc with rfl | rfl | rfl
     ·simp only [↓sx0, sxE, encs, sevalprocAttr]
      repeat ((with_reducible refine Vc.go ?_ fun _ => ?_); (focus (first | omega | (simp only [InK]; omega) | (simp [InK] <;> omega))); simp only [↓sx0, sxE, encs, sevalprocAttr])
      refine ⟨by decide, _, rfl, ?_⟩
      simp only [↓sx0, sxE, encs, sevalprocAttr]
      refine CallI.fnK (it_part) glob_ok hgl rfl (by simp only [sx3, encs, sxR, sevalprocAttr] <;> (try simp) <;> (try rfl)) ?_
      simp only [↓sx0, sxE, encs, sevalprocAttr]
      repeat ((with_reducible refine Vc.go ?_ fun _ => ?_); (focus (first | omega | (simp only [InK]; omega) | (simp [InK] <;> omega))); simp only [↓sx0, sxE, encs, sevalprocAttr])
      refine ⟨1, StLe.auto (by simp only [sx2, encs, sxR, sevalprocAttr] <;> (try simp [hW, eW, bs, bs_data, encs]) <;> (try omega)), ?_, ?_⟩
      all_goals omega
     ·simp only [↓sx0, sxE, encs, sevalprocAttr]
      repeat ((with_reducible refine Vc.go ?_ fun _ => ?_); (focus (first | omega | (simp only [InK]; omega) | (simp [InK] <;> omega))); simp only [↓sx0, sxE, encs, sevalprocAttr])
      refine ⟨by decide, _, rfl, ?_⟩
      simp only [↓sx0, sxE, encs, sevalprocAttr]
      refine CallI.fnK (it_word) glob_ok hgl rfl (by simp only [sx3, encs, sxR, sevalprocAttr] <;> (try simp) <;> (try rfl)) ?_
      simp only [↓sx0, sxE, encs, sevalprocAttr]
      repeat ((with_reducible refine Vc.go ?_ fun _ => ?_); (focus (first | omega | (simp only [InK]; omega) | (simp [InK] <;> omega))); simp only [↓sx0, sxE, encs, sevalprocAttr])
      refine ⟨2, StLe.auto (by simp only [sx2, encs, sxR, sevalprocAttr] <;> (try simp [hW, eW, bs, bs_data, encs]) <;> (try omega)), ?_, ?_⟩
      all_goals omega
     ·simp only [↓sx0, sxE, encs, sevalprocAttr]
      repeat ((with_reducible refine Vc.go ?_ fun _ => ?_); (focus (first | omega | (simp only [InK]; omega) | (simp [InK] <;> omega))); simp only [↓sx0, sxE, encs, sevalprocAttr])
      refine ⟨by decide, _, rfl, ?_⟩
      simp only [↓sx0, sxE, encs, sevalprocAttr]
      refine CallI.fnK (it_kind) glob_ok hgl rfl (by simp only [sx3, encs, sxR, sevalprocAttr] <;> (try simp) <;> (try rfl)) ?_
      simp only [↓sx0, sxE, encs, sevalprocAttr]
      repeat ((with_reducible refine Vc.go ?_ fun _ => ?_); (focus (first | omega | (simp only [InK]; omega) | (simp [InK] <;> omega))); simp only [↓sx0, sxE, encs, sevalprocAttr])
      refine ⟨3, StLe.auto (by simp only [sx2, encs, sxR, sevalprocAttr] <;> (try simp [hW, eW, bs, bs_data, encs]) <;> (try omega)), ?_, ?_⟩
      all_goals omega
    ·have hke : k = 3 := by omega
     subst hke
     have hjn := join_T false (mkW ⟨5, part, word, old, new, was, kind⟩) (by rw [hW]; simp) (by
      have := join_len (mkW ⟨5, part, word, old, new, was, kind⟩) 1000 hwl
      rw [hW] at this ⊢
      simp only [List.length_cons, List.length_nil] at this
      omega)
     rw [show (mkW ⟨5, part, word, old, new, was, kind⟩).take (3 + 1) = mkW ⟨5, part, word, old, new, was, kind⟩ from rfl]
     simp only [↓sx0, sxE, encs, sevalprocAttr]
     refine CallI.fn (hjn) (by simp only [sx3, encs, sxR, sevalprocAttr] <;> (try simp) <;> (try rfl)) ?_
     simp only [↓sx0, sxE, encs, sevalprocAttr]
     refine EndW.fn ?_ ?_ <;> simp only [sx4, encs, kpLL_map, sxR, sevalprocAttr] <;> (try simp [mkT]) <;> (try omega)
  ·have hW : mkW ⟨6, part, word, old, new, was, kind⟩ = [(nmB 6).data.toList, Lib.itoa part, Lib.itoa word, Lib.itoa kind] := rfl
   apply @cutB _ _ ?br ?tail
   case br =>
    intro hcut
    simp only [↓sx0, sxE, encs, sevalprocAttr]
    refine DrawW.plan Tok mixed (.q 1 <| .q 2 <| .e2 0 [2] (.q 3 <| .q 4 <| .e 5 [2, 4] <| .e 6 [] <| .done) 5 [2] (.e 0 [2] <| .q 3 <| .q 4 <| .e 6 [] <| .done)) (by kernel_rfl) (by kernel_rfl) ?_
    simp only [↓sx0, sxE, encs, sevalprocAttr]
    repeat' (first | (with_reducible refine And.intro ?_ ?_) | ((with_reducible refine Vc.go ?_ fun _ => ?_); (focus (first | trivial | omega | (simp only [InK]; omega) | (simp [InK] <;> omega))); (try simp only [↓sx0, sxE, encs, sevalprocAttr])) | (refine CallI.fn (forms_s) ?_ ?_; (focus ((simp only [sx3, encs, sxR, sevalprocAttr] <;> (try simp) <;> (try rfl)); done)); (try simp only [↓sx0, sxE, encs, sevalprocAttr])))
    all_goals (
     skip
     refine ⟨by decide, _, by rw [frE_eq]; rfl, ?_⟩
     simp only [↓sx0, sxE, encs, sevalprocAttr]
     refine CallI.bxa 0 (by simp) fun β => ?_
     refine CallI.inlG (rs := [.tmp 3]) Tok (fun h => by first | cases h; done | rfl) Tryz.func58 rfl rfl rfl rfl (by simp) (fun ρ σ μ fr lp => ?_) (by refine ⟨_, ?_, rfl⟩; rfl)
     simp only [↓sx0, sxE, encs, sevalprocAttr]
     refine DrawW.plan Tok mixed (.q 0 <| .q 1 <| .q 2 <| .q 3 <| .q 4 <| .q 5 <| .q 6 <| .q 7 <| .q 9 <| .q 10 <| .e2 8 [9] (.e 11 [] <| .e 12 [] <| .q 13 <| .done) 11 [] (.e 8 [9] <| .e 12 [] <| .q 13 <| .done)) (by kernel_rfl) (by kernel_rfl) ?_
     simp only [↓sx0, sxE, encs, sevalprocAttr]
     refine ⟨?_, ?_⟩
     all_goals (
      skip
      refine CallI.inlG (rs := [.tmp 2]) Tok (fun h => by first | cases h; done | rfl) Tryz.func59 rfl rfl rfl rfl (by simp) (fun ρ σ μ fr lp => ?_) (by refine ⟨_, ?_, rfl⟩; rfl)
      simp only [↓sx0, sxE, encs, sevalprocAttr]
      repeat ((with_reducible refine Vc.go ?_ fun _ => ?_); (focus (first | omega | (simp only [InK]; omega) | (simp [InK] <;> omega))); simp only [↓sx0, sxE, encs, sevalprocAttr])
      refine LoopW.comp [4, 23, 24, 25, 1000000] (by simp only [sx2, encs, sxR, sevalprocAttr] <;> (try simp) <;> (try omega)) ?_
      simp only [sx2, sxR, sevalprocAttr]
      exact hcut.out β ) )
   case tail =>
    intro β
    skip
    refine LoopW.comp [4, 23, 24, 25, 1000000, 2000000] (by simp only [sx2, encs, sxR, sevalprocAttr] <;> (try simp) <;> (try omega)) ?_
    simp only [sx2, sxR, sevalprocAttr]
    refine LoopW.up Tok (fun k : Nat => [(4, .row 0), (25, (.v (.int .i64 ((k : Int)))))]) (fun k => []) (fun k => [(0, ((mkW ⟨6, part, word, old, new, was, kind⟩).take (k + 1)).map eW)]) (fun k => []) (fun k => k ≤ 3) (fun k => 3 - k) (0) (by simp only [sx2, encs, sxR, sevalprocAttr] <;> (try simp [hW, bs_data, encs]) <;> (try omega)) ?_ ?_
    ·omega
    rintro k hk
    simp only [↓sx0, sxE, encs, sevalprocAttr]
    refine BrW.dec (fun hlt => ?_) (fun hlt => ?_)
    ·have hc : k = 0 ∨ k = 1 ∨ k = 2 := by omega
     rcases hc with rfl | rfl | rfl
     ·simp only [↓sx0, sxE, encs, sevalprocAttr]
      repeat ((with_reducible refine Vc.go ?_ fun _ => ?_); (focus (first | omega | (simp only [InK]; omega) | (simp [InK] <;> omega))); simp only [↓sx0, sxE, encs, sevalprocAttr])
      refine ⟨by decide, _, rfl, ?_⟩
      simp only [↓sx0, sxE, encs, sevalprocAttr]
      refine CallI.fnK (it_part) glob_ok hgl rfl (by simp only [sx3, encs, sxR, sevalprocAttr] <;> (try simp) <;> (try rfl)) ?_
      simp only [↓sx0, sxE, encs, sevalprocAttr]
      repeat ((with_reducible refine Vc.go ?_ fun _ => ?_); (focus (first | omega | (simp only [InK]; omega) | (simp [InK] <;> omega))); simp only [↓sx0, sxE, encs, sevalprocAttr])
      refine ⟨1, StLe.auto (by simp only [sx2, encs, sxR, sevalprocAttr] <;> (try simp [hW, eW, bs, bs_data, encs]) <;> (try omega)), ?_, ?_⟩
      all_goals omega
     ·simp only [↓sx0, sxE, encs, sevalprocAttr]
      repeat ((with_reducible refine Vc.go ?_ fun _ => ?_); (focus (first | omega | (simp only [InK]; omega) | (simp [InK] <;> omega))); simp only [↓sx0, sxE, encs, sevalprocAttr])
      refine ⟨by decide, _, rfl, ?_⟩
      simp only [↓sx0, sxE, encs, sevalprocAttr]
      refine CallI.fnK (it_word) glob_ok hgl rfl (by simp only [sx3, encs, sxR, sevalprocAttr] <;> (try simp) <;> (try rfl)) ?_
      simp only [↓sx0, sxE, encs, sevalprocAttr]
      repeat ((with_reducible refine Vc.go ?_ fun _ => ?_); (focus (first | omega | (simp only [InK]; omega) | (simp [InK] <;> omega))); simp only [↓sx0, sxE, encs, sevalprocAttr])
      refine ⟨2, StLe.auto (by simp only [sx2, encs, sxR, sevalprocAttr] <;> (try simp [hW, eW, bs, bs_data, encs]) <;> (try omega)), ?_, ?_⟩
      all_goals omega
     ·simp only [↓sx0, sxE, encs, sevalprocAttr]
      repeat ((with_reducible refine Vc.go ?_ fun _ => ?_); (focus (first | omega | (simp only [InK]; omega) | (simp [InK] <;> omega))); simp only [↓sx0, sxE, encs, sevalprocAttr])
      refine ⟨by decide, _, rfl, ?_⟩
      simp only [↓sx0, sxE, encs, sevalprocAttr]
      refine CallI.fnK (it_kind) glob_ok hgl rfl (by simp only [sx3, encs, sxR, sevalprocAttr] <;> (try simp) <;> (try rfl)) ?_
      simp only [↓sx0, sxE, encs, sevalprocAttr]
      repeat ((with_reducible refine Vc.go ?_ fun _ => ?_); (focus (first | omega | (simp only [InK]; omega) | (simp [InK] <;> omega))); simp only [↓sx0, sxE, encs, sevalprocAttr])
      refine ⟨3, StLe.auto (by simp only [sx2, encs, sxR, sevalprocAttr] <;> (try simp [hW, eW, bs, bs_data, encs]) <;> (try omega)), ?_, ?_⟩
      all_goals omega
    ·have hke : k = 3 := by omega
     subst hke
     have hjn := join_T false (mkW ⟨6, part, word, old, new, was, kind⟩) (by rw [hW]; simp) (by
      have := join_len (mkW ⟨6, part, word, old, new, was, kind⟩) 1000 hwl
      rw [hW] at this ⊢
      simp only [List.length_cons, List.length_nil] at this
      omega)
     rw [show (mkW ⟨6, part, word, old, new, was, kind⟩).take (3 + 1) = mkW ⟨6, part, word, old, new, was, kind⟩ from rfl]
     simp only [↓sx0, sxE, encs, sevalprocAttr]
     refine CallI.fn (hjn) (by simp only [sx3, encs, sxR, sevalprocAttr] <;> (try simp) <;> (try rfl)) ?_
     simp only [↓sx0, sxE, encs, sevalprocAttr]
     refine EndW.fn ?_ ?_ <;> simp only [sx4, encs, kpLL_map, sxR, sevalprocAttr] <;> (try simp [mkT]) <;> (try omega)
  ·have hW : mkW ⟨7, part, word, old, new, was, kind⟩ = [(nmB 7).data.toList, Lib.itoa part, Lib.itoa was, Lib.itoa kind] := rfl
   apply @cutB _ _ ?br ?tail
   case br =>
    intro hcut
    simp only [↓sx0, sxE, encs, sevalprocAttr]
    refine DrawW.plan Tok mixed (.q 1 <| .q 2 <| .e2 0 [2] (.q 3 <| .q 4 <| .e 5 [2, 4] <| .e 6 [] <| .done) 5 [2] (.e 0 [2] <| .q 3 <| .q 4 <| .e 6 [] <| .done)) (by kernel_rfl) (by kernel_rfl) ?_
    simp only [↓sx0, sxE, encs, sevalprocAttr]
    repeat' (first | (with_reducible refine And.intro ?_ ?_) | ((with_reducible refine Vc.go ?_ fun _ => ?_); (focus (first | trivial | omega | (simp only [InK]; omega) | (simp [InK] <;> omega))); (try simp only [↓sx0, sxE, encs, sevalprocAttr])) | (refine CallI.fn (forms_s) ?_ ?_; (focus ((simp only [sx3, encs, sxR, sevalprocAttr] <;> (try simp) <;> (try rfl)); done)); (try simp only [↓sx0, sxE, encs, sevalprocAttr])))
    all_goals (
     skip
     refine ⟨by decide, _, by rw [frE_eq]; rfl, ?_⟩
     simp only [↓sx0, sxE, encs, sevalprocAttr]
     refine CallI.bxa 0 (by simp) fun β => ?_
     refine CallI.inlG (rs := [.tmp 2]) Tok (fun h => by first | cases h; done | rfl) Tryz.func64 rfl rfl rfl rfl (by simp) (fun ρ σ μ fr lp => ?_) (by refine ⟨_, ?_, rfl⟩; rfl)
     simp only [↓sx0, sxE, encs, sevalprocAttr]
     refine DrawW.plan Tok mixed (.q 0 <| .q 1 <| .q 2 <| .q 3 <| .q 4 <| .q 5 <| .q 6 <| .q 7 <| .q 8 <| .q 9 <| .q 10 <| .q 11 <| .e 12 [] <| .q 13 <| .done) (by kernel_rfl) (by kernel_rfl) ?_
     simp only [↓sx0, sxE, encs, sevalprocAttr]
     repeat ((with_reducible refine Vc.go ?_ fun _ => ?_); (focus (first | omega | (simp only [InK]; omega) | (simp [InK] <;> omega))); simp only [↓sx0, sxE, encs, sevalprocAttr])
     refine LoopW.comp [4, 23, 24, 25, 1000000] (by simp only [sx2, encs, sxR, sevalprocAttr] <;> (try simp) <;> (try omega)) ?_
     simp only [sx2, sxR, sevalprocAttr]
     exact hcut.out β )
   case tail =>
    intro β
    skip
    refine LoopW.comp [4, 23, 24, 25, 1000000, 2000000] (by simp only [sx2, encs, sxR, sevalprocAttr] <;> (try simp) <;> (try omega)) ?_
    simp only [sx2, sxR, sevalprocAttr]
    refine LoopW.up Tok (fun k : Nat => [(4, .row 0), (25, (.v (.int .i64 ((k : Int)))))]) (fun k => []) (fun k => [(0, ((mkW ⟨7, part, word, old, new, was, kind⟩).take (k + 1)).map eW)]) (fun k => []) (fun k => k ≤ 3) (fun k => 3 - k) (0) (by simp only [sx2, encs, sxR, sevalprocAttr] <;> (try simp [hW, bs_data, encs]) <;> (try omega)) ?_ ?_
    ·omega
    rintro k hk
    simp only [↓sx0, sxE, encs, sevalprocAttr]
    refine BrW.dec (fun hlt => ?_) (fun hlt => ?_)
    ·have hc : k = 0 ∨ k = 1 ∨ k = 2 := by omega
     rcases hc with rfl | rfl | rfl
     ·simp only [↓sx0, sxE, encs, sevalprocAttr]
      repeat ((with_reducible refine Vc.go ?_ fun _ => ?_); (focus (first | omega | (simp only [InK]; omega) | (simp [InK] <;> omega))); simp only [↓sx0, sxE, encs, sevalprocAttr])
      refine ⟨by decide, _, rfl, ?_⟩
      simp only [↓sx0, sxE, encs, sevalprocAttr]
      refine CallI.fnK (it_part) glob_ok hgl rfl (by simp only [sx3, encs, sxR, sevalprocAttr] <;> (try simp) <;> (try rfl)) ?_
      simp only [↓sx0, sxE, encs, sevalprocAttr]
      repeat ((with_reducible refine Vc.go ?_ fun _ => ?_); (focus (first | omega | (simp only [InK]; omega) | (simp [InK] <;> omega))); simp only [↓sx0, sxE, encs, sevalprocAttr])
      refine ⟨1, StLe.auto (by simp only [sx2, encs, sxR, sevalprocAttr] <;> (try simp [hW, eW, bs, bs_data, encs]) <;> (try omega)), ?_, ?_⟩
      all_goals omega
     ·simp only [↓sx0, sxE, encs, sevalprocAttr]
      repeat ((with_reducible refine Vc.go ?_ fun _ => ?_); (focus (first | omega | (simp only [InK]; omega) | (simp [InK] <;> omega))); simp only [↓sx0, sxE, encs, sevalprocAttr])
      refine ⟨by decide, _, rfl, ?_⟩
      simp only [↓sx0, sxE, encs, sevalprocAttr]
      refine CallI.fnK (it_was) glob_ok hgl rfl (by simp only [sx3, encs, sxR, sevalprocAttr] <;> (try simp) <;> (try rfl)) ?_
      simp only [↓sx0, sxE, encs, sevalprocAttr]
      repeat ((with_reducible refine Vc.go ?_ fun _ => ?_); (focus (first | omega | (simp only [InK]; omega) | (simp [InK] <;> omega))); simp only [↓sx0, sxE, encs, sevalprocAttr])
      refine ⟨2, StLe.auto (by simp only [sx2, encs, sxR, sevalprocAttr] <;> (try simp [hW, eW, bs, bs_data, encs]) <;> (try omega)), ?_, ?_⟩
      all_goals omega
     ·simp only [↓sx0, sxE, encs, sevalprocAttr]
      repeat ((with_reducible refine Vc.go ?_ fun _ => ?_); (focus (first | omega | (simp only [InK]; omega) | (simp [InK] <;> omega))); simp only [↓sx0, sxE, encs, sevalprocAttr])
      refine ⟨by decide, _, rfl, ?_⟩
      simp only [↓sx0, sxE, encs, sevalprocAttr]
      refine CallI.fnK (it_kind) glob_ok hgl rfl (by simp only [sx3, encs, sxR, sevalprocAttr] <;> (try simp) <;> (try rfl)) ?_
      simp only [↓sx0, sxE, encs, sevalprocAttr]
      repeat ((with_reducible refine Vc.go ?_ fun _ => ?_); (focus (first | omega | (simp only [InK]; omega) | (simp [InK] <;> omega))); simp only [↓sx0, sxE, encs, sevalprocAttr])
      refine ⟨3, StLe.auto (by simp only [sx2, encs, sxR, sevalprocAttr] <;> (try simp [hW, eW, bs, bs_data, encs]) <;> (try omega)), ?_, ?_⟩
      all_goals omega
    ·have hke : k = 3 := by omega
     subst hke
     have hjn := join_T false (mkW ⟨7, part, word, old, new, was, kind⟩) (by rw [hW]; simp) (by
      have := join_len (mkW ⟨7, part, word, old, new, was, kind⟩) 1000 hwl
      rw [hW] at this ⊢
      simp only [List.length_cons, List.length_nil] at this
      omega)
     rw [show (mkW ⟨7, part, word, old, new, was, kind⟩).take (3 + 1) = mkW ⟨7, part, word, old, new, was, kind⟩ from rfl]
     simp only [↓sx0, sxE, encs, sevalprocAttr]
     refine CallI.fn (hjn) (by simp only [sx3, encs, sxR, sevalprocAttr] <;> (try simp) <;> (try rfl)) ?_
     simp only [↓sx0, sxE, encs, sevalprocAttr]
     refine EndW.fn ?_ ?_ <;> simp only [sx4, encs, kpLL_map, sxR, sevalprocAttr] <;> (try simp [mkT]) <;> (try omega)
 ·refine BrW.no hk ?_
  rw [show mkT ⟨k, part, word, old, new, was, kind⟩ = [] by
   rw [mkT, mkW, if_neg (by simp only; omega), if_neg (by simp only; omega), if_neg (by simp only; omega), if_neg (by simp only; omega), if_neg (by simp only; omega), if_neg (by simp only; omega), if_neg (by simp only; omega)]; rfl]
  simp only [↓sx0, sxE, encs, sevalprocAttr]
  refine EndW.fn ?_ ?_ <;> simp only [sx4, encs, kpLL_map, sxR, sevalprocAttr] <;> (try simp [bs]) <;> (try omega)
end Go.Proofs.YtmbemlmkfoblhaaGreatDoor
/-
 Chapter 8: addresses of a mark's fields, by the forms.
-/
namespace Go.Proofs.YtmbemlmkfoblhaaGreatDoor
open Go Go.Vx
set_option maxRecDepth 20000
theorem CallI.bxv (k b : Nat) {C : Cx} {f : Nat} {args args' : List SV} {st : St} {K : SV → St → Prop} (hb : Vx.look st.tm 1000000 = .bxa k b) (ha : holdBL k b args = args') (hall : htC args = .all) (h : CallI C f args' st K ⟨⟩) : CallI C f args st K ⟨⟩ := fun g a w ht hm vs hv => by
 have h0 := ht.tm 1000000
 rw [hb] at h0
 have := h g a w ht hm vs (by rw [← ha]; exact rels_holdB h0 _ _ hv)
 exact ⟨this.1, this.2.mono fun e w' ⟨v, he, g', st', sv, k1, k2, k3, k4, k5⟩ => ⟨v, he, g', st', sv, k1, k2, k3, k4, fun hdr => ⟨(k5 hdr).1, by rw [hall]; exact Fr.all⟩⟩⟩
def pA (b o : Nat) : SV := .v (.pointer (some ⟨b, o, none⟩))
def iN (b o : Nat) : List D := [.v (.iface 77 (.pointer (some ⟨b, o, none⟩)))]
def iS (b o : Nat) : List D := [.v (.iface 79 (.pointer (some ⟨b, o, none⟩)))]
theorem pA_eq : (∀ b o, pA b o = .v (.pointer (some ⟨b, o, none⟩))) ∧ (∀ b o, iN b o = [.v (.iface 77 (.pointer (some ⟨b, o, none⟩)))]) ∧ (∀ b o, iS b o = [.v (.iface 79 (.pointer (some ⟨b, o, none⟩)))]) ∧ (∀ bk o j, (⟨bk, o, none⟩ : Addr).add j = ⟨bk, o + j, none⟩) := ⟨fun _ _ => rfl, fun _ _ => rfl, fun _ _ => rfl, fun _ _ _ => addr_at _ _ _⟩
theorem form3_s (b : Nat) : Ctr Tryz.prog 60 [pA b 0] (fun rr => rr = ⟨.row 0, [.own 20 1 [iS b 3]]⟩) := by
 have encs := And.intro encs pA_eq
 refine Ctr.of (rs := [.tmp 2]) Tok false Tryz.func60 rfl rfl rfl rfl (by simp [ofDL]) (fun w0 kp => ?_)
 simp only [↓sx0, sxE, encs, sevalprocAttr]
 repeat ((with_reducible refine Vc.go ?_ fun _ => ?_); (focus (first | omega | (simp only [InK]; omega) | (simp [InK] <;> omega))); simp only [↓sx0, sxE, encs, sevalprocAttr])
 exact EndW.r [some 0] (by simp) (by simp only [sx4, sxF, encs, kpLL_map, sxR, sevalprocAttr] <;> simp) (by simp only [sx4, sxF, encs, kpLL_map, sxR, sevalprocAttr] <;> simp) (by simp only [sx4, sxF, encs, kpLL_map, sxR, sevalprocAttr] <;> simp) (by simp only [sx4, sxF, encs, kpLL_map, sxR, sevalprocAttr] <;> simp)
theorem form4_s (b : Nat) : Ctr Tryz.prog 61 [pA b 0] (fun rr => rr = ⟨.row 0, [.own 20 1 [iS b 4]]⟩) := by
 have encs := And.intro encs pA_eq
 refine Ctr.of (rs := [.tmp 2]) Tok false Tryz.func61 rfl rfl rfl rfl (by simp [ofDL]) (fun w0 kp => ?_)
 simp only [↓sx0, sxE, encs, sevalprocAttr]
 repeat ((with_reducible refine Vc.go ?_ fun _ => ?_); (focus (first | omega | (simp only [InK]; omega) | (simp [InK] <;> omega))); simp only [↓sx0, sxE, encs, sevalprocAttr])
 exact EndW.r [some 0] (by simp) (by simp only [sx4, sxF, encs, kpLL_map, sxR, sevalprocAttr] <;> simp) (by simp only [sx4, sxF, encs, kpLL_map, sxR, sevalprocAttr] <;> simp) (by simp only [sx4, sxF, encs, kpLL_map, sxR, sevalprocAttr] <;> simp) (by simp only [sx4, sxF, encs, kpLL_map, sxR, sevalprocAttr] <;> simp)
theorem form5_s (b : Nat) : Ctr Tryz.prog 62 [pA b 0] (fun rr => rr = ⟨.row 0, [.own 20 1 [iS b 3, iS b 4]]⟩) := by
 have encs := And.intro encs pA_eq
 refine Ctr.of (rs := [.tmp 2]) Tok false Tryz.func62 rfl rfl rfl rfl (by simp [ofDL]) (fun w0 kp => ?_)
 simp only [↓sx0, sxE, encs, sevalprocAttr]
 refine DrawW.plan Tok mixed (.q 0 <| .q 1 <| .q 2 <| .q 3 <| .q 4 <| .q 5 <| .q 6 <| .q 7 <| .e 8 [] <| .q 9 <| .done) (by kernel_rfl) (by kernel_rfl) ?_
 simp only [↓sx0, sxE, encs, sevalprocAttr]
 repeat ((with_reducible refine Vc.go ?_ fun _ => ?_); (focus (first | omega | (simp only [InK]; omega) | (simp [InK] <;> omega))); simp only [↓sx0, sxE, encs, sevalprocAttr])
 exact EndW.r [some 0] (by simp) (by simp only [sx4, sxF, encs, kpLL_map, sxR, sevalprocAttr] <;> simp) (by simp only [sx4, sxF, encs, kpLL_map, sxR, sevalprocAttr] <;> simp) (by simp only [sx4, sxF, encs, kpLL_map, sxR, sevalprocAttr] <;> simp) (by simp only [sx4, sxF, encs, kpLL_map, sxR, sevalprocAttr] <;> simp)
theorem form6_s (b : Nat) : Ctr Tryz.prog 63 [pA b 0] (fun rr => rr = ⟨.v (.slice none 0 0), []⟩) := by
 have encs := And.intro encs pA_eq
 refine Ctr.of (rs := [.tmp 2]) Tok false Tryz.func63 rfl rfl rfl rfl (by simp [ofDL]) (fun w0 kp => ?_)
 simp only [↓sx0, sxE, encs, sevalprocAttr]
 refine EndW.fn ?_ ?_ <;> simp only [sx4, encs, kpLL_map, sxR, sevalprocAttr] <;> (try simp) <;> (try omega)
theorem form2_s (b : Nat) : Ctr Tryz.prog 59 [pA b 0] (fun rr => rr = ⟨.row 0, [.own 20 1 [iN b 6]]⟩) := by
 have encs := And.intro encs pA_eq
 refine Ctr.of (rs := [.tmp 2]) Tok false Tryz.func59 rfl rfl rfl rfl (by simp [ofDL]) (fun w0 kp => ?_)
 simp only [↓sx0, sxE, encs, sevalprocAttr]
 repeat ((with_reducible refine Vc.go ?_ fun _ => ?_); (focus (first | omega | (simp only [InK]; omega) | (simp [InK] <;> omega))); simp only [↓sx0, sxE, encs, sevalprocAttr])
 exact EndW.r [some 0] (by simp) (by simp only [sx4, sxF, encs, kpLL_map, sxR, sevalprocAttr] <;> simp) (by simp only [sx4, sxF, encs, kpLL_map, sxR, sevalprocAttr] <;> simp) (by simp only [sx4, sxF, encs, kpLL_map, sxR, sevalprocAttr] <;> simp) (by simp only [sx4, sxF, encs, kpLL_map, sxR, sevalprocAttr] <;> simp)
theorem flds1_s (b : Nat) : Ctr Tryz.prog 58 [pA b 0, .pt true [.clo 60 []]] (fun rr => rr = ⟨.row 0, [.own 20 1 [iN b 1, iN b 2, iS b 3]]⟩) := by
 have encs := And.intro encs pA_eq
 refine Ctr.of (rs := [.tmp 3]) Tok false Tryz.func58 rfl rfl rfl rfl (by simp [ofDL]) (fun w0 kp => ?_)
 simp only [↓sx0, sxE, encs, sevalprocAttr]
 refine DrawW.plan Tok mixed (.q 0 <| .q 1 <| .q 2 <| .q 3 <| .q 4 <| .q 5 <| .q 6 <| .q 7 <| .q 9 <| .q 10 <| .e2 8 [9] (.e 11 [] <| .e 12 [] <| .q 13 <| .done) 11 [] (.e 8 [9] <| .e 12 [] <| .q 13 <| .done)) (by kernel_rfl) (by kernel_rfl) ?_
 simp only [↓sx0, sxE, encs, sevalprocAttr]
 refine ⟨?_, ?_⟩
 all_goals (
  skip
  refine CallI.ctr (form3_s b) (by simp only [sx3, encs, sxR, sevalprocAttr] <;> (try simp) <;> (try rfl)) ?_
  rintro _ rfl
  simp only [↓sx0, sxE, encs, sevalprocAttr]
  repeat ((with_reducible refine Vc.go ?_ fun _ => ?_); (focus (first | omega | (simp only [InK]; omega) | (simp [InK] <;> omega))); simp only [↓sx0, sxE, encs, sevalprocAttr])
  exact EndW.r [some 2] (by simp) (by simp only [sx4, sxF, encs, kpLL_map, sxR, sevalprocAttr] <;> simp) (by simp only [sx4, sxF, encs, kpLL_map, sxR, sevalprocAttr] <;> simp) (by simp only [sx4, sxF, encs, kpLL_map, sxR, sevalprocAttr] <;> simp) (by simp only [sx4, sxF, encs, kpLL_map, sxR, sevalprocAttr] <;> simp) )
theorem flds2_s (b : Nat) : Ctr Tryz.prog 58 [pA b 0, .pt true [.clo 61 []]] (fun rr => rr = ⟨.row 0, [.own 20 1 [iN b 1, iN b 2, iS b 4]]⟩) := by
 have encs := And.intro encs pA_eq
 refine Ctr.of (rs := [.tmp 3]) Tok false Tryz.func58 rfl rfl rfl rfl (by simp [ofDL]) (fun w0 kp => ?_)
 simp only [↓sx0, sxE, encs, sevalprocAttr]
 refine DrawW.plan Tok mixed (.q 0 <| .q 1 <| .q 2 <| .q 3 <| .q 4 <| .q 5 <| .q 6 <| .q 7 <| .q 9 <| .q 10 <| .e2 8 [9] (.e 11 [] <| .e 12 [] <| .q 13 <| .done) 11 [] (.e 8 [9] <| .e 12 [] <| .q 13 <| .done)) (by kernel_rfl) (by kernel_rfl) ?_
 simp only [↓sx0, sxE, encs, sevalprocAttr]
 refine ⟨?_, ?_⟩
 all_goals (
  skip
  refine CallI.ctr (form4_s b) (by simp only [sx3, encs, sxR, sevalprocAttr] <;> (try simp) <;> (try rfl)) ?_
  rintro _ rfl
  simp only [↓sx0, sxE, encs, sevalprocAttr]
  repeat ((with_reducible refine Vc.go ?_ fun _ => ?_); (focus (first | omega | (simp only [InK]; omega) | (simp [InK] <;> omega))); simp only [↓sx0, sxE, encs, sevalprocAttr])
  exact EndW.r [some 2] (by simp) (by simp only [sx4, sxF, encs, kpLL_map, sxR, sevalprocAttr] <;> simp) (by simp only [sx4, sxF, encs, kpLL_map, sxR, sevalprocAttr] <;> simp) (by simp only [sx4, sxF, encs, kpLL_map, sxR, sevalprocAttr] <;> simp) (by simp only [sx4, sxF, encs, kpLL_map, sxR, sevalprocAttr] <;> simp) )
theorem flds3_s (b : Nat) : Ctr Tryz.prog 58 [pA b 0, .pt true [.clo 62 []]] (fun rr => rr = ⟨.row 0, [.own 20 1 [iN b 1, iN b 2, iS b 3, iS b 4]]⟩) := by
 have encs := And.intro encs pA_eq
 refine Ctr.of (rs := [.tmp 3]) Tok false Tryz.func58 rfl rfl rfl rfl (by simp [ofDL]) (fun w0 kp => ?_)
 simp only [↓sx0, sxE, encs, sevalprocAttr]
 refine DrawW.plan Tok mixed (.q 0 <| .q 1 <| .q 2 <| .q 3 <| .q 4 <| .q 5 <| .q 6 <| .q 7 <| .q 9 <| .q 10 <| .e2 8 [9] (.e 11 [] <| .e 12 [] <| .q 13 <| .done) 11 [] (.e 8 [9] <| .e 12 [] <| .q 13 <| .done)) (by kernel_rfl) (by kernel_rfl) ?_
 simp only [↓sx0, sxE, encs, sevalprocAttr]
 refine ⟨?_, ?_⟩
 all_goals (
  skip
  refine CallI.ctr (form5_s b) (by simp only [sx3, encs, sxR, sevalprocAttr] <;> (try simp) <;> (try rfl)) ?_
  rintro _ rfl
  simp only [↓sx0, sxE, encs, sevalprocAttr]
  repeat ((with_reducible refine Vc.go ?_ fun _ => ?_); (focus (first | omega | (simp only [InK]; omega) | (simp [InK] <;> omega))); simp only [↓sx0, sxE, encs, sevalprocAttr])
  exact EndW.r [some 2] (by simp) (by simp only [sx4, sxF, encs, kpLL_map, sxR, sevalprocAttr] <;> simp) (by simp only [sx4, sxF, encs, kpLL_map, sxR, sevalprocAttr] <;> simp) (by simp only [sx4, sxF, encs, kpLL_map, sxR, sevalprocAttr] <;> simp) (by simp only [sx4, sxF, encs, kpLL_map, sxR, sevalprocAttr] <;> simp) )
theorem flds4_s (b : Nat) : Ctr Tryz.prog 58 [pA b 0, .pt true [.clo 63 []]] (fun rr => rr = ⟨.row 0, [.own 20 1 [iN b 1, iN b 2]]⟩) := by
 have encs := And.intro encs pA_eq
 refine Ctr.of (rs := [.tmp 3]) Tok false Tryz.func58 rfl rfl rfl rfl (by simp [ofDL]) (fun w0 kp => ?_)
 simp only [↓sx0, sxE, encs, sevalprocAttr]
 refine DrawW.plan Tok mixed (.q 0 <| .q 1 <| .q 2 <| .q 3 <| .q 4 <| .q 5 <| .q 6 <| .q 7 <| .q 9 <| .q 10 <| .e2 8 [9] (.e 11 [] <| .e 12 [] <| .q 13 <| .done) 11 [] (.e 8 [9] <| .e 12 [] <| .q 13 <| .done)) (by kernel_rfl) (by kernel_rfl) ?_
 simp only [↓sx0, sxE, encs, sevalprocAttr]
 refine ⟨?_, ?_⟩
 all_goals (
  skip
  refine CallI.ctr (form6_s b) (by simp only [sx3, encs, sxR, sevalprocAttr] <;> (try simp) <;> (try rfl)) ?_
  rintro _ rfl
  simp only [↓sx0, sxE, encs, sevalprocAttr]
  repeat ((with_reducible refine Vc.go ?_ fun _ => ?_); (focus (first | omega | (simp only [InK]; omega) | (simp [InK] <;> omega))); simp only [↓sx0, sxE, encs, sevalprocAttr])
  exact EndW.r [some 1] (by simp) (by simp only [sx4, sxF, encs, kpLL_map, sxR, sevalprocAttr] <;> simp) (by simp only [sx4, sxF, encs, kpLL_map, sxR, sevalprocAttr] <;> simp) (by simp only [sx4, sxF, encs, kpLL_map, sxR, sevalprocAttr] <;> simp) (by simp only [sx4, sxF, encs, kpLL_map, sxR, sevalprocAttr] <;> simp) )
theorem flds5_s (b : Nat) : Ctr Tryz.prog 58 [pA b 0, .pt true [.clo 59 []]] (fun rr => rr = ⟨.row 0, [.own 20 1 [iN b 1, iN b 2, iN b 6]]⟩) := by
 have encs := And.intro encs pA_eq
 refine Ctr.of (rs := [.tmp 3]) Tok false Tryz.func58 rfl rfl rfl rfl (by simp [ofDL]) (fun w0 kp => ?_)
 simp only [↓sx0, sxE, encs, sevalprocAttr]
 refine DrawW.plan Tok mixed (.q 0 <| .q 1 <| .q 2 <| .q 3 <| .q 4 <| .q 5 <| .q 6 <| .q 7 <| .q 9 <| .q 10 <| .e2 8 [9] (.e 11 [] <| .e 12 [] <| .q 13 <| .done) 11 [] (.e 8 [9] <| .e 12 [] <| .q 13 <| .done)) (by kernel_rfl) (by kernel_rfl) ?_
 simp only [↓sx0, sxE, encs, sevalprocAttr]
 refine ⟨?_, ?_⟩
 all_goals (
  skip
  refine CallI.ctr (form2_s b) (by simp only [sx3, encs, sxR, sevalprocAttr] <;> (try simp) <;> (try rfl)) ?_
  rintro _ rfl
  simp only [↓sx0, sxE, encs, sevalprocAttr]
  repeat ((with_reducible refine Vc.go ?_ fun _ => ?_); (focus (first | omega | (simp only [InK]; omega) | (simp [InK] <;> omega))); simp only [↓sx0, sxE, encs, sevalprocAttr])
  exact EndW.r [some 2] (by simp) (by simp only [sx4, sxF, encs, kpLL_map, sxR, sevalprocAttr] <;> simp) (by simp only [sx4, sxF, encs, kpLL_map, sxR, sevalprocAttr] <;> simp) (by simp only [sx4, sxF, encs, kpLL_map, sxR, sevalprocAttr] <;> simp) (by simp only [sx4, sxF, encs, kpLL_map, sxR, sevalprocAttr] <;> simp) )
theorem flds7_s (b : Nat) : Ctr Tryz.prog 64 [pA b 0] (fun rr => rr = ⟨.row 0, [.own 20 1 [iN b 1, iN b 5, iN b 6]]⟩) := by
 have encs := And.intro encs pA_eq
 refine Ctr.of (rs := [.tmp 2]) Tok false Tryz.func64 rfl rfl rfl rfl (by simp [ofDL]) (fun w0 kp => ?_)
 simp only [↓sx0, sxE, encs, sevalprocAttr]
 refine DrawW.plan Tok mixed (.q 0 <| .q 1 <| .q 2 <| .q 3 <| .q 4 <| .q 5 <| .q 6 <| .q 7 <| .q 8 <| .q 9 <| .q 10 <| .q 11 <| .e 12 [] <| .q 13 <| .done) (by kernel_rfl) (by kernel_rfl) ?_
 simp only [↓sx0, sxE, encs, sevalprocAttr]
 repeat ((with_reducible refine Vc.go ?_ fun _ => ?_); (focus (first | omega | (simp only [InK]; omega) | (simp [InK] <;> omega))); simp only [↓sx0, sxE, encs, sevalprocAttr])
 exact EndW.r [some 0] (by simp) (by simp only [sx4, sxF, encs, kpLL_map, sxR, sevalprocAttr] <;> simp) (by simp only [sx4, sxF, encs, kpLL_map, sxR, sevalprocAttr] <;> simp) (by simp only [sx4, sxF, encs, kpLL_map, sxR, sevalprocAttr] <;> simp) (by simp only [sx4, sxF, encs, kpLL_map, sxR, sevalprocAttr] <;> simp)
end Go.Proofs.YtmbemlmkfoblhaaGreatDoor
