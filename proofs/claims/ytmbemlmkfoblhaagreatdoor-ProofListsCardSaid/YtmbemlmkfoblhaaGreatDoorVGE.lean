/-
 Chapter 8: a mark's text (the reference).
-/
import Derived.Test.YtmbemlmkfoblhaaGreatDoorVGC
import Derived.Test.YtmbemlmkfoblhaaGreatDoorVGlobI
import Derived.Test.YtmbemlmkfoblhaaGreatDoorVGB
import Derived.Test.YtmbemlmkfoblhaaGreatDoorVIns
import Derived.Test.YtmbemlmkfoblhaaGreatDoorVB8
set_option linter.unusedSimpArgs false
set_option linter.unusedVariables false
namespace Go.Proofs.YtmbemlmkfoblhaaGreatDoor
open Go Go.Vx
set_option maxRecDepth 20000
theorem sp_size : (⟨#[32]⟩ : ByteArray).size = 1 := rfl
theorem nmB_bs (k : Nat) : nmB k = bs (nmB k).data.toList := (bs_data _).symm
theorem nmB_len (k : Nat) : (nmB k).data.toList.length ≤ 6 := by unfold nmB; split <;> decide
set_option maxHeartbeats 8000000 in
theorem formatMark_R (m : Mk) (hI : MkI m) (ho : m.old.size ≤ 1000) (hn : m.new.size ≤ 1000) : CtrK glob Tryz.prog 12 [mV m] (fun rr => rr = ⟨(.v (.string (bs (mkT m)))), []⟩) := by
 obtain ⟨k, part, word, old, new, was, kind⟩ := m
 obtain ⟨h1, h2, h3, h4⟩ := hI
 refine CtrK.of (rs := [.tmp 2]) Tok true Tryz.func12 rfl rfl rfl rfl (by simp [ofDL]) (fun w0 kp hgl => ?_)
 simp only [↓sx0, sxE, encs, sevalprocAttr]
 obtain ⟨ty, fz, h0⟩ := hgl.2.2.2.2
 refine CallI.glo 0 nmL rfl h0 ?_
 refine CallI.fn (withinB_s k 1 7) (by simp only [sx3, encs, sxR, sevalprocAttr] <;> (try simp) <;> (try rfl)) ?_
 simp only [↓sx0, sxE, encs, sevalprocAttr]
 by_cases hk : 1 ≤ k ∧ k ≤ 7
 ·refine BrW.yes hk ?_
  have dp := decimal_s part h1.1 h1.2
  have dw := decimal_s word h2.1 h2.2
  have da := decimal_s was h3.1 h3.2
  have dk := decimal_s kind h4.1 h4.2
  have l1 := itoa_len h1; have l2 := itoa_len h2; have l3 := itoa_len h3; have l4 := itoa_len h4
  have eo : old = bs old.data.toList := (bs_data _).symm
  have en : new = bs new.data.toList := (bs_data _).symm
  have lo : old.data.toList.length ≤ 1000 := ho
  have ln : new.data.toList.length ≤ 1000 := hn
  generalize old.data.toList = ol at eo lo
  generalize new.data.toList = nl at en ln
  subst eo en
  have encs := And.intro encs (show (nmL.map fun s => D.v (.string s)) = [.v (.string (nmB 0)), .v (.string (nmB 1)), .v (.string (nmB 2)), .v (.string (nmB 3)), .v (.string (nmB 4)), .v (.string (nmB 5)), .v (.string (nmB 6)), .v (.string (nmB 7))] from rfl)
  have h7 : k = 1 ∨ k = 2 ∨ k = 3 ∨ k = 4 ∨ k = 5 ∨ k = 6 ∨ k = 7 := by omega
  rcases h7 with rfl | rfl | rfl | rfl | rfl | rfl | rfl
  ·have hN := nmB_len 1
   have eN := nmB_bs 1
   have hT : mkT ⟨1, part, word, bs ol, bs nl, was, kind⟩ = (nmB 1).data.toList ++ 32 :: (Lib.itoa part ++ 32 :: (Lib.itoa word ++ 32 :: (ol))) := by simp [mkT, mkW, Lib.join, Lib.joinTail, bs_toList]
   rw [hT]
   generalize (nmB 1).data.toList = N at hN eN
   generalize Lib.itoa part = ip at dp l1 ⊢
   generalize Lib.itoa word = iw at dw l2 ⊢
   generalize Lib.itoa was = ia at da l3 ⊢
   generalize Lib.itoa kind = ik at dk l4 ⊢
   have encs := And.intro encs eN
   simp only [↓sx0, sxE, encs, sevalprocAttr]
   refine DrawW.plan Tok mixed (.q 0 <| .q 1 <| .q 2 <| .q 3 <| .q 4 <| .q 5 <| .q 6 <| .e 7 [1, 3] <| .q 8 <| .q 9 <| .q 10 <| .done) (by kernel_rfl) (by kernel_rfl) ?_
   simp only [↓sx0, sxE, encs, sevalprocAttr]
   repeat ((with_reducible refine Vc.go ?_ fun _ => ?_); (focus (first | omega | (simp only [InK]; omega) | (simp [ByteArray.size_append, bs_size, sp_size, InK] <;> omega))); simp only [↓sx0, sxE, encs, sevalprocAttr])
   refine CallI.fn (dp) (by simp only [sx3, encs, sxR, sevalprocAttr] <;> (try simp) <;> (try rfl)) ?_
   simp only [↓sx0, sxE, encs, sevalprocAttr]
   repeat ((with_reducible refine Vc.go ?_ fun _ => ?_); (focus (first | omega | (simp only [InK]; omega) | (simp [ByteArray.size_append, bs_size, sp_size, InK] <;> omega))); simp only [↓sx0, sxE, encs, sevalprocAttr])
   refine DrawW.plan Tok mixed (.q 0 <| .q 1 <| .q 2 <| .q 6 <| .q 7 <| .e 3 [7] <| .q 4 <| .q 5 <| .q 8 <| .q 9 <| .done) (by kernel_rfl) (by kernel_rfl) ?_
   simp only [↓sx0, sxE, encs, sevalprocAttr]
   repeat ((with_reducible refine Vc.go ?_ fun _ => ?_); (focus (first | omega | (simp only [InK]; omega) | (simp [ByteArray.size_append, bs_size, sp_size, InK] <;> omega))); simp only [↓sx0, sxE, encs, sevalprocAttr])
   refine CallI.fn (dw) (by simp only [sx3, encs, sxR, sevalprocAttr] <;> (try simp) <;> (try rfl)) ?_
   simp only [↓sx0, sxE, encs, sevalprocAttr]
   repeat ((with_reducible refine Vc.go ?_ fun _ => ?_); (focus (first | omega | (simp only [InK]; omega) | (simp [ByteArray.size_append, bs_size, sp_size, InK] <;> omega))); simp only [↓sx0, sxE, encs, sevalprocAttr])
   simp only [show (⟨#[32]⟩ : ByteArray) = bs [32] from rfl, bs_add, List.append_assoc, List.singleton_append, List.cons_append, List.nil_append]
   refine EndW.fn ?_ ?_ <;> simp only [sx4, encs, kpLL_map, sxR, sevalprocAttr] <;> (try simp) <;> (try omega)
  ·have hN := nmB_len 2
   have eN := nmB_bs 2
   have hT : mkT ⟨2, part, word, bs ol, bs nl, was, kind⟩ = (nmB 2).data.toList ++ 32 :: (Lib.itoa part ++ 32 :: (Lib.itoa word ++ 32 :: (nl))) := by simp [mkT, mkW, Lib.join, Lib.joinTail, bs_toList]
   rw [hT]
   generalize (nmB 2).data.toList = N at hN eN
   generalize Lib.itoa part = ip at dp l1 ⊢
   generalize Lib.itoa word = iw at dw l2 ⊢
   generalize Lib.itoa was = ia at da l3 ⊢
   generalize Lib.itoa kind = ik at dk l4 ⊢
   have encs := And.intro encs eN
   simp only [↓sx0, sxE, encs, sevalprocAttr]
   refine DrawW.plan Tok mixed (.q 0 <| .q 1 <| .q 2 <| .q 3 <| .q 4 <| .q 5 <| .q 6 <| .e 7 [1, 3] <| .q 8 <| .q 9 <| .q 10 <| .done) (by kernel_rfl) (by kernel_rfl) ?_
   simp only [↓sx0, sxE, encs, sevalprocAttr]
   repeat ((with_reducible refine Vc.go ?_ fun _ => ?_); (focus (first | omega | (simp only [InK]; omega) | (simp [ByteArray.size_append, bs_size, sp_size, InK] <;> omega))); simp only [↓sx0, sxE, encs, sevalprocAttr])
   refine CallI.fn (dp) (by simp only [sx3, encs, sxR, sevalprocAttr] <;> (try simp) <;> (try rfl)) ?_
   simp only [↓sx0, sxE, encs, sevalprocAttr]
   repeat ((with_reducible refine Vc.go ?_ fun _ => ?_); (focus (first | omega | (simp only [InK]; omega) | (simp [ByteArray.size_append, bs_size, sp_size, InK] <;> omega))); simp only [↓sx0, sxE, encs, sevalprocAttr])
   refine DrawW.plan Tok mixed (.q 0 <| .q 1 <| .q 2 <| .q 6 <| .q 7 <| .e 3 [7] <| .q 4 <| .q 5 <| .q 8 <| .q 9 <| .done) (by kernel_rfl) (by kernel_rfl) ?_
   simp only [↓sx0, sxE, encs, sevalprocAttr]
   repeat ((with_reducible refine Vc.go ?_ fun _ => ?_); (focus (first | omega | (simp only [InK]; omega) | (simp [ByteArray.size_append, bs_size, sp_size, InK] <;> omega))); simp only [↓sx0, sxE, encs, sevalprocAttr])
   refine CallI.fn (dw) (by simp only [sx3, encs, sxR, sevalprocAttr] <;> (try simp) <;> (try rfl)) ?_
   simp only [↓sx0, sxE, encs, sevalprocAttr]
   repeat ((with_reducible refine Vc.go ?_ fun _ => ?_); (focus (first | omega | (simp only [InK]; omega) | (simp [ByteArray.size_append, bs_size, sp_size, InK] <;> omega))); simp only [↓sx0, sxE, encs, sevalprocAttr])
   simp only [show (⟨#[32]⟩ : ByteArray) = bs [32] from rfl, bs_add, List.append_assoc, List.singleton_append, List.cons_append, List.nil_append]
   refine EndW.fn ?_ ?_ <;> simp only [sx4, encs, kpLL_map, sxR, sevalprocAttr] <;> (try simp) <;> (try omega)
  ·have hN := nmB_len 3
   have eN := nmB_bs 3
   have hT : mkT ⟨3, part, word, bs ol, bs nl, was, kind⟩ = (nmB 3).data.toList ++ 32 :: (Lib.itoa part ++ 32 :: (Lib.itoa word ++ 32 :: (ol ++ 32 :: (nl)))) := by simp [mkT, mkW, Lib.join, Lib.joinTail, bs_toList]
   rw [hT]
   generalize (nmB 3).data.toList = N at hN eN
   generalize Lib.itoa part = ip at dp l1 ⊢
   generalize Lib.itoa word = iw at dw l2 ⊢
   generalize Lib.itoa was = ia at da l3 ⊢
   generalize Lib.itoa kind = ik at dk l4 ⊢
   have encs := And.intro encs eN
   simp only [↓sx0, sxE, encs, sevalprocAttr]
   refine DrawW.plan Tok mixed (.q 0 <| .q 1 <| .q 2 <| .q 3 <| .q 4 <| .q 5 <| .q 6 <| .e 7 [1, 3] <| .q 8 <| .q 9 <| .q 10 <| .done) (by kernel_rfl) (by kernel_rfl) ?_
   simp only [↓sx0, sxE, encs, sevalprocAttr]
   repeat ((with_reducible refine Vc.go ?_ fun _ => ?_); (focus (first | omega | (simp only [InK]; omega) | (simp [ByteArray.size_append, bs_size, sp_size, InK] <;> omega))); simp only [↓sx0, sxE, encs, sevalprocAttr])
   refine CallI.fn (dp) (by simp only [sx3, encs, sxR, sevalprocAttr] <;> (try simp) <;> (try rfl)) ?_
   simp only [↓sx0, sxE, encs, sevalprocAttr]
   repeat ((with_reducible refine Vc.go ?_ fun _ => ?_); (focus (first | omega | (simp only [InK]; omega) | (simp [ByteArray.size_append, bs_size, sp_size, InK] <;> omega))); simp only [↓sx0, sxE, encs, sevalprocAttr])
   refine DrawW.plan Tok mixed (.q 0 <| .q 1 <| .q 2 <| .q 6 <| .q 7 <| .q 10 <| .q 11 <| .e 3 [7, 11] <| .q 4 <| .q 5 <| .q 8 <| .q 9 <| .q 12 <| .q 13 <| .done) (by kernel_rfl) (by kernel_rfl) ?_
   simp only [↓sx0, sxE, encs, sevalprocAttr]
   repeat ((with_reducible refine Vc.go ?_ fun _ => ?_); (focus (first | omega | (simp only [InK]; omega) | (simp [ByteArray.size_append, bs_size, sp_size, InK] <;> omega))); simp only [↓sx0, sxE, encs, sevalprocAttr])
   refine CallI.fn (dw) (by simp only [sx3, encs, sxR, sevalprocAttr] <;> (try simp) <;> (try rfl)) ?_
   simp only [↓sx0, sxE, encs, sevalprocAttr]
   repeat ((with_reducible refine Vc.go ?_ fun _ => ?_); (focus (first | omega | (simp only [InK]; omega) | (simp [ByteArray.size_append, bs_size, sp_size, InK] <;> omega))); simp only [↓sx0, sxE, encs, sevalprocAttr])
   simp only [show (⟨#[32]⟩ : ByteArray) = bs [32] from rfl, bs_add, List.append_assoc, List.singleton_append, List.cons_append, List.nil_append]
   refine EndW.fn ?_ ?_ <;> simp only [sx4, encs, kpLL_map, sxR, sevalprocAttr] <;> (try simp) <;> (try omega)
  ·have hN := nmB_len 4
   have eN := nmB_bs 4
   have hT : mkT ⟨4, part, word, bs ol, bs nl, was, kind⟩ = (nmB 4).data.toList ++ 32 :: (Lib.itoa part ++ 32 :: (Lib.itoa word)) := by simp [mkT, mkW, Lib.join, Lib.joinTail, bs_toList]
   rw [hT]
   generalize (nmB 4).data.toList = N at hN eN
   generalize Lib.itoa part = ip at dp l1 ⊢
   generalize Lib.itoa word = iw at dw l2 ⊢
   generalize Lib.itoa was = ia at da l3 ⊢
   generalize Lib.itoa kind = ik at dk l4 ⊢
   have encs := And.intro encs eN
   simp only [↓sx0, sxE, encs, sevalprocAttr]
   refine DrawW.plan Tok mixed (.q 0 <| .q 1 <| .q 2 <| .q 3 <| .q 4 <| .q 5 <| .q 6 <| .e 7 [1, 3] <| .q 8 <| .q 9 <| .q 10 <| .done) (by kernel_rfl) (by kernel_rfl) ?_
   simp only [↓sx0, sxE, encs, sevalprocAttr]
   repeat ((with_reducible refine Vc.go ?_ fun _ => ?_); (focus (first | omega | (simp only [InK]; omega) | (simp [ByteArray.size_append, bs_size, sp_size, InK] <;> omega))); simp only [↓sx0, sxE, encs, sevalprocAttr])
   refine CallI.fn (dp) (by simp only [sx3, encs, sxR, sevalprocAttr] <;> (try simp) <;> (try rfl)) ?_
   simp only [↓sx0, sxE, encs, sevalprocAttr]
   repeat ((with_reducible refine Vc.go ?_ fun _ => ?_); (focus (first | omega | (simp only [InK]; omega) | (simp [ByteArray.size_append, bs_size, sp_size, InK] <;> omega))); simp only [↓sx0, sxE, encs, sevalprocAttr])
   repeat ((with_reducible refine Vc.go ?_ fun _ => ?_); (focus (first | omega | (simp only [InK]; omega) | (simp [ByteArray.size_append, bs_size, sp_size, InK] <;> omega))); simp only [↓sx0, sxE, encs, sevalprocAttr])
   refine CallI.fn (dw) (by simp only [sx3, encs, sxR, sevalprocAttr] <;> (try simp) <;> (try rfl)) ?_
   simp only [↓sx0, sxE, encs, sevalprocAttr]
   repeat ((with_reducible refine Vc.go ?_ fun _ => ?_); (focus (first | omega | (simp only [InK]; omega) | (simp [ByteArray.size_append, bs_size, sp_size, InK] <;> omega))); simp only [↓sx0, sxE, encs, sevalprocAttr])
   simp only [show (⟨#[32]⟩ : ByteArray) = bs [32] from rfl, bs_add, List.append_assoc, List.singleton_append, List.cons_append, List.nil_append]
   refine EndW.fn ?_ ?_ <;> simp only [sx4, encs, kpLL_map, sxR, sevalprocAttr] <;> (try simp) <;> (try omega)
  ·have hN := nmB_len 5
   have eN := nmB_bs 5
   have hT : mkT ⟨5, part, word, bs ol, bs nl, was, kind⟩ = (nmB 5).data.toList ++ 32 :: (Lib.itoa part ++ 32 :: (Lib.itoa word ++ 32 :: (Lib.itoa kind))) := by simp [mkT, mkW, Lib.join, Lib.joinTail, bs_toList]
   rw [hT]
   generalize (nmB 5).data.toList = N at hN eN
   generalize Lib.itoa part = ip at dp l1 ⊢
   generalize Lib.itoa word = iw at dw l2 ⊢
   generalize Lib.itoa was = ia at da l3 ⊢
   generalize Lib.itoa kind = ik at dk l4 ⊢
   have encs := And.intro encs eN
   simp only [↓sx0, sxE, encs, sevalprocAttr]
   refine DrawW.plan Tok mixed (.q 0 <| .q 1 <| .q 2 <| .q 3 <| .q 4 <| .q 5 <| .q 6 <| .e 7 [1, 3] <| .q 8 <| .q 9 <| .q 10 <| .done) (by kernel_rfl) (by kernel_rfl) ?_
   simp only [↓sx0, sxE, encs, sevalprocAttr]
   repeat ((with_reducible refine Vc.go ?_ fun _ => ?_); (focus (first | omega | (simp only [InK]; omega) | (simp [ByteArray.size_append, bs_size, sp_size, InK] <;> omega))); simp only [↓sx0, sxE, encs, sevalprocAttr])
   refine CallI.fn (dp) (by simp only [sx3, encs, sxR, sevalprocAttr] <;> (try simp) <;> (try rfl)) ?_
   simp only [↓sx0, sxE, encs, sevalprocAttr]
   repeat ((with_reducible refine Vc.go ?_ fun _ => ?_); (focus (first | omega | (simp only [InK]; omega) | (simp [ByteArray.size_append, bs_size, sp_size, InK] <;> omega))); simp only [↓sx0, sxE, encs, sevalprocAttr])
   refine DrawW.plan Tok mixed (.q 0 <| .q 1 <| .q 2 <| .q 6 <| .q 7 <| .e 3 [7] <| .q 4 <| .q 5 <| .e 8 [] <| .q 9 <| .q 10 <| .done) (by kernel_rfl) (by kernel_rfl) ?_
   simp only [↓sx0, sxE, encs, sevalprocAttr]
   repeat ((with_reducible refine Vc.go ?_ fun _ => ?_); (focus (first | omega | (simp only [InK]; omega) | (simp [ByteArray.size_append, bs_size, sp_size, InK] <;> omega))); simp only [↓sx0, sxE, encs, sevalprocAttr])
   refine CallI.fn (dw) (by simp only [sx3, encs, sxR, sevalprocAttr] <;> (try simp) <;> (try rfl)) ?_
   simp only [↓sx0, sxE, encs, sevalprocAttr]
   repeat ((with_reducible refine Vc.go ?_ fun _ => ?_); (focus (first | omega | (simp only [InK]; omega) | (simp [ByteArray.size_append, bs_size, sp_size, InK] <;> omega))); simp only [↓sx0, sxE, encs, sevalprocAttr])
   refine CallI.fn (dk) (by simp only [sx3, encs, sxR, sevalprocAttr] <;> (try simp) <;> (try rfl)) ?_
   simp only [↓sx0, sxE, encs, sevalprocAttr]
   repeat ((with_reducible refine Vc.go ?_ fun _ => ?_); (focus (first | omega | (simp only [InK]; omega) | (simp [ByteArray.size_append, bs_size, sp_size, InK] <;> omega))); simp only [↓sx0, sxE, encs, sevalprocAttr])
   simp only [show (⟨#[32]⟩ : ByteArray) = bs [32] from rfl, bs_add, List.append_assoc, List.singleton_append, List.cons_append, List.nil_append]
   refine EndW.fn ?_ ?_ <;> simp only [sx4, encs, kpLL_map, sxR, sevalprocAttr] <;> (try simp) <;> (try omega)
  ·have hN := nmB_len 6
   have eN := nmB_bs 6
   have hT : mkT ⟨6, part, word, bs ol, bs nl, was, kind⟩ = (nmB 6).data.toList ++ 32 :: (Lib.itoa part ++ 32 :: (Lib.itoa word ++ 32 :: (Lib.itoa kind))) := by simp [mkT, mkW, Lib.join, Lib.joinTail, bs_toList]
   rw [hT]
   generalize (nmB 6).data.toList = N at hN eN
   generalize Lib.itoa part = ip at dp l1 ⊢
   generalize Lib.itoa word = iw at dw l2 ⊢
   generalize Lib.itoa was = ia at da l3 ⊢
   generalize Lib.itoa kind = ik at dk l4 ⊢
   have encs := And.intro encs eN
   simp only [↓sx0, sxE, encs, sevalprocAttr]
   refine DrawW.plan Tok mixed (.q 0 <| .q 1 <| .q 2 <| .q 3 <| .q 4 <| .q 5 <| .q 6 <| .e 7 [1, 3] <| .q 8 <| .q 9 <| .q 10 <| .done) (by kernel_rfl) (by kernel_rfl) ?_
   simp only [↓sx0, sxE, encs, sevalprocAttr]
   repeat ((with_reducible refine Vc.go ?_ fun _ => ?_); (focus (first | omega | (simp only [InK]; omega) | (simp [ByteArray.size_append, bs_size, sp_size, InK] <;> omega))); simp only [↓sx0, sxE, encs, sevalprocAttr])
   refine CallI.fn (dp) (by simp only [sx3, encs, sxR, sevalprocAttr] <;> (try simp) <;> (try rfl)) ?_
   simp only [↓sx0, sxE, encs, sevalprocAttr]
   repeat ((with_reducible refine Vc.go ?_ fun _ => ?_); (focus (first | omega | (simp only [InK]; omega) | (simp [ByteArray.size_append, bs_size, sp_size, InK] <;> omega))); simp only [↓sx0, sxE, encs, sevalprocAttr])
   refine DrawW.plan Tok mixed (.q 0 <| .q 1 <| .q 2 <| .q 6 <| .q 7 <| .e 3 [7] <| .q 4 <| .q 5 <| .e 8 [] <| .q 9 <| .q 10 <| .done) (by kernel_rfl) (by kernel_rfl) ?_
   simp only [↓sx0, sxE, encs, sevalprocAttr]
   repeat ((with_reducible refine Vc.go ?_ fun _ => ?_); (focus (first | omega | (simp only [InK]; omega) | (simp [ByteArray.size_append, bs_size, sp_size, InK] <;> omega))); simp only [↓sx0, sxE, encs, sevalprocAttr])
   refine CallI.fn (dw) (by simp only [sx3, encs, sxR, sevalprocAttr] <;> (try simp) <;> (try rfl)) ?_
   simp only [↓sx0, sxE, encs, sevalprocAttr]
   repeat ((with_reducible refine Vc.go ?_ fun _ => ?_); (focus (first | omega | (simp only [InK]; omega) | (simp [ByteArray.size_append, bs_size, sp_size, InK] <;> omega))); simp only [↓sx0, sxE, encs, sevalprocAttr])
   refine CallI.fn (dk) (by simp only [sx3, encs, sxR, sevalprocAttr] <;> (try simp) <;> (try rfl)) ?_
   simp only [↓sx0, sxE, encs, sevalprocAttr]
   repeat ((with_reducible refine Vc.go ?_ fun _ => ?_); (focus (first | omega | (simp only [InK]; omega) | (simp [ByteArray.size_append, bs_size, sp_size, InK] <;> omega))); simp only [↓sx0, sxE, encs, sevalprocAttr])
   simp only [show (⟨#[32]⟩ : ByteArray) = bs [32] from rfl, bs_add, List.append_assoc, List.singleton_append, List.cons_append, List.nil_append]
   refine EndW.fn ?_ ?_ <;> simp only [sx4, encs, kpLL_map, sxR, sevalprocAttr] <;> (try simp) <;> (try omega)
  ·have hN := nmB_len 7
   have eN := nmB_bs 7
   have hT : mkT ⟨7, part, word, bs ol, bs nl, was, kind⟩ = (nmB 7).data.toList ++ 32 :: (Lib.itoa part ++ 32 :: (Lib.itoa was ++ 32 :: (Lib.itoa kind))) := by simp [mkT, mkW, Lib.join, Lib.joinTail, bs_toList]
   rw [hT]
   generalize (nmB 7).data.toList = N at hN eN
   generalize Lib.itoa part = ip at dp l1 ⊢
   generalize Lib.itoa word = iw at dw l2 ⊢
   generalize Lib.itoa was = ia at da l3 ⊢
   generalize Lib.itoa kind = ik at dk l4 ⊢
   have encs := And.intro encs eN
   simp only [↓sx0, sxE, encs, sevalprocAttr]
   refine DrawW.plan Tok mixed (.q 0 <| .q 1 <| .q 2 <| .q 3 <| .q 4 <| .q 5 <| .q 6 <| .e 7 [1, 3] <| .q 8 <| .q 9 <| .q 10 <| .done) (by kernel_rfl) (by kernel_rfl) ?_
   simp only [↓sx0, sxE, encs, sevalprocAttr]
   repeat ((with_reducible refine Vc.go ?_ fun _ => ?_); (focus (first | omega | (simp only [InK]; omega) | (simp [ByteArray.size_append, bs_size, sp_size, InK] <;> omega))); simp only [↓sx0, sxE, encs, sevalprocAttr])
   refine CallI.fn (dp) (by simp only [sx3, encs, sxR, sevalprocAttr] <;> (try simp) <;> (try rfl)) ?_
   simp only [↓sx0, sxE, encs, sevalprocAttr]
   repeat ((with_reducible refine Vc.go ?_ fun _ => ?_); (focus (first | omega | (simp only [InK]; omega) | (simp [ByteArray.size_append, bs_size, sp_size, InK] <;> omega))); simp only [↓sx0, sxE, encs, sevalprocAttr])
   refine DrawW.plan Tok mixed (.q 0 <| .q 1 <| .q 2 <| .q 6 <| .q 7 <| .e 3 [7] <| .q 4 <| .q 5 <| .e 8 [] <| .q 9 <| .q 10 <| .done) (by kernel_rfl) (by kernel_rfl) ?_
   simp only [↓sx0, sxE, encs, sevalprocAttr]
   repeat ((with_reducible refine Vc.go ?_ fun _ => ?_); (focus (first | omega | (simp only [InK]; omega) | (simp [ByteArray.size_append, bs_size, sp_size, InK] <;> omega))); simp only [↓sx0, sxE, encs, sevalprocAttr])
   refine CallI.fn (da) (by simp only [sx3, encs, sxR, sevalprocAttr] <;> (try simp) <;> (try rfl)) ?_
   simp only [↓sx0, sxE, encs, sevalprocAttr]
   repeat ((with_reducible refine Vc.go ?_ fun _ => ?_); (focus (first | omega | (simp only [InK]; omega) | (simp [ByteArray.size_append, bs_size, sp_size, InK] <;> omega))); simp only [↓sx0, sxE, encs, sevalprocAttr])
   refine CallI.fn (dk) (by simp only [sx3, encs, sxR, sevalprocAttr] <;> (try simp) <;> (try rfl)) ?_
   simp only [↓sx0, sxE, encs, sevalprocAttr]
   repeat ((with_reducible refine Vc.go ?_ fun _ => ?_); (focus (first | omega | (simp only [InK]; omega) | (simp [ByteArray.size_append, bs_size, sp_size, InK] <;> omega))); simp only [↓sx0, sxE, encs, sevalprocAttr])
   simp only [show (⟨#[32]⟩ : ByteArray) = bs [32] from rfl, bs_add, List.append_assoc, List.singleton_append, List.cons_append, List.nil_append]
   refine EndW.fn ?_ ?_ <;> simp only [sx4, encs, kpLL_map, sxR, sevalprocAttr] <;> (try simp) <;> (try omega)
 ·refine BrW.no hk ?_
  rw [show mkT ⟨k, part, word, old, new, was, kind⟩ = [] by
   rw [mkT, mkW, if_neg (by simp only; omega), if_neg (by simp only; omega), if_neg (by simp only; omega), if_neg (by simp only; omega), if_neg (by simp only; omega), if_neg (by simp only; omega), if_neg (by simp only; omega)]; rfl]
  simp only [↓sx0, sxE, encs, sevalprocAttr]
  refine EndW.fn ?_ ?_ <;> simp only [sx4, encs, kpLL_map, sxR, sevalprocAttr] <;> (try simp [bs]) <;> (try omega)
end Go.Proofs.YtmbemlmkfoblhaaGreatDoor
/-
 Chapter 8, walks: a copy in memory of its own, with the words of one part still own.
-/
namespace Go.Proofs.YtmbemlmkfoblhaaGreatDoor
open Go Go.Vx
set_option maxRecDepth 20000
theorem cloneS_s (b : Bool) (els : List (List D)) (hk : kpLL els) (hl : els.length ≤ 1000000) : Ctr Tryz.prog 104 [.sl b 1 els] (fun rr => rr = ⟨.row 0, [.own 9 1 els]⟩) := by
 refine Ctr.of (rs := [.tmp 2]) Tok false Tryz.func104 rfl rfl rfl rfl (by simp [ofDL]) (fun w0 kp => ?_)
 simp only [↓sx0, xE, sevalprocAttr]
 intro z hz
 refine BrW.of (fun h => ?_) (fun h => ?_)
 ·simp only [↓sx0, xE, sevalprocAttr]
  rw [hz h]
  exact EndW.r [none] (by simp) (by simp only [sx4, sxF, xK, sevalprocAttr] <;> simp) (by simp only [sx4, sxF, xK, sevalprocAttr] <;> simp) (by simp only [sx4, sxF, xK, sevalprocAttr] <;> simp) (by simp only [sx4, sxF, xK, sevalprocAttr] <;> simp)
 ·simp only [↓sx0, xE, sevalprocAttr]
  (with_reducible refine Vc.go ?_ fun _ => ?_); focus (first | omega | (simp only [InK]; omega) | (simp [InK] <;> omega))
  simp only [↓sx0, xE, sevalprocAttr]
  exact EndW.r [some 1] (by simp) (by simp only [sx4, sxF, xK, sevalprocAttr] <;> simp [hk]) (by simp only [sx4, sxF, xK, sevalprocAttr] <;> simp [hk]) (by simp only [sx4, sxF, xK, sevalprocAttr] <;> simp [hk]) (by simp only [sx4, sxF, xK, sevalprocAttr] <;> simp [hk])
theorem kpS (l : List ByteArray) : kpLL (l.map eS) := by simp [kpLL_map, eS, kpL, kpD]
theorem kpP (l : List Pt) : kpLL (l.map (eP true)) := by simp [kpLL_map, eP, eS, kpL, kpD]
/-- the parts so far; of part i the words are own, the value is 'u'. -/
def elsA (l : List Pt) (i : Nat) (u : Value) : List (List D) := (l.map (eP true)).set i [.v (.int .i64 (l.getD i ⟨0, []⟩).kind), .v u]
theorem elsA_first {l : List Pt} {i : Nat} (hi : i < l.length) (u : Value) : ((l.take i).map (eP true)) ++ [[.v (.int .i64 l[i].kind), .v u]] = elsA (l.take (i + 1)) i u := by
 unfold elsA
 rw [List.take_succ_eq_append_getElem hi, List.map_append, List.set_append_right _ _ (by simp; omega)]
 have : (List.take i l ++ [l[i]]).getD i ⟨0, []⟩ = l[i] := by
  rw [List.getD_eq_getElem?_getD, List.getElem?_append_right (by simp; omega)]
  simp [show i - min i l.length = 0 by omega]
 rw [this]
 simp [show i - min i l.length = 0 by omega]
theorem elsA_next {l : List Pt} {i k : Nat} (hi : i < k) (hk : k < l.length) (u : Value) : elsA (l.take k) i u ++ [eP true l[k]] = elsA (l.take (k + 1)) i u := by
 unfold elsA
 rw [List.take_succ_eq_append_getElem hk, List.map_append, List.set_append_left _ _ (by simp; omega)]
 have : (List.take k l ++ [l[k]]).getD i ⟨0, []⟩ = (List.take k l).getD i ⟨0, []⟩ := by
  simp only [List.getD_eq_getElem?_getD]
  rw [List.getElem?_append_left (by simp; omega)]
 rw [this]
 rfl
theorem kpA (l : List Pt) (i : Nat) (u : Value) : kpLL (elsA l i u) := by
 rw [kpLL_all]
 intro e he
 rcases List.mem_or_eq_of_mem_set he with h | h
 ·have := kpP l; rw [kpLL_all] at this; exact this e h
 ·subst h; simp [kpL, kpD]
def gA (i k : Nat) : Option Value → SV
 | none => if k = i then .arm else .any
 | some u => .ali 1 u
def rwA (l : List Pt) (i k : Nat) : Option Value → List Rw
 | none => [.own 67 2 ((l.take k).map (eP true))]
 | some u => [.own 67 2 (elsA (l.take k) i u), .own 9 1 ((l.getD i ⟨0, []⟩).words.map eS)]
def JA (l : List Pt) (i k : Nat) : Option Value → Prop
 | none => k ≤ i
 | some u => i < k ∧ k ≤ l.length ∧ ∃ ad n c, u = .slice (some ad) n c
set_option maxHeartbeats 4000000 in
theorem clone_s (b b2 : Bool) (l : List Pt) (i : Nat) (hl : l.length ≤ 1000) (hi : i < l.length) (hw : ∀ p ∈ l, p.words.length ≤ 1000) (hn : 0 < l[i].words.length) :
  CtrA Tryz.prog 82 [.sl b 2 (l.map (eP b2))] (fun r k u => k = 1 ∧ (∃ ad n c, u = .slice (some ad) n c) ∧ r = ⟨.row 0, [.own 67 2 (elsA l i u), .own 9 1 (l[i].words.map eS)]⟩) := by
 refine CtrA.of (rs := [.tmp 2]) Tok Tryz.func82 rfl rfl rfl rfl (by simp [ofDL]) (fun w0 kp => ?_)
 simp only [↓sx0, xE, sevalprocAttr]
 have wl : ∀ k (h : k < l.length), (l[k].words.map eS).length ≤ 1000000 := fun k h => by have := hw _ (List.getElem_mem h); simp; omega
 refine LoopW.inv Tok (fun x : Nat × Option Value => ⟨[(3, .row 0), (8, (.v (.int .i64 x.1))), (6, .sl b 2 (l.map (eP b2))), (7, (.v (.int .i64 l.length))), (1000000, gA i x.1 x.2)], [], rwA l i x.1 x.2⟩) (fun x => JA l i x.1 x.2) (fun x => l.length - x.1) (0, none) (StLe.trans StLe.arm (StLe.auto ?_)) (Nat.zero_le i) ?_
 ·by_cases hz : 0 = i
  ·simp only [gA, rwA, if_pos hz, List.take_zero, List.map_nil]
   simp only [sx2, xR, sevalprocAttr] <;> (try simp) <;> (try omega)
  ·simp only [gA, rwA, if_neg hz, List.take_zero, List.map_nil]
   simp only [sx2, xR, sevalprocAttr] <;> (try simp) <;> (try omega)
 rintro ⟨k, _ | u⟩ hJ
 ·simp only [JA] at hJ
  have hkl : k < l.length := by omega
  by_cases hki : k = i
  ·subst hki
   simp only [gA, rwA, if_true]
   simp only [↓sx0, xE, sevalprocAttr]
   refine BrW.yes (by omega) ?_
   simp only [↓sx0, xE, sevalprocAttr]
   refine IxW.nat hkl ?_
   simp only [↓sx0, xE, sevalprocAttr]
   refine DrawW.plan Tok mixed (.q 0 <| .q 1 <| .q 2 <| .q 3 <| .q 4 <| .e 5 [2] <| .q 6 <| .e 7 [] <| .e 8 [] <| .q 9 <| .done) (by kernel_rfl) (by kernel_rfl) ?_
   simp only [↓sx0, xE, sevalprocAttr]
   refine CallI.ctr (cloneS_s b2 _ (kpS l[k].words) (wl k hkl)) (by simp only [sx3, xR, sevalprocAttr] <;> (try simp) <;> (try rfl)) ?_
   rintro _ rfl
   simp only [↓sx0, xE, sevalprocAttr]
   (with_reducible refine Vc.go ?_ fun _ => ?_)
   ·simpa using hn
   intro ad n0 c0
   simp only [↓sx0, xE, sevalprocAttr]
   repeat ((with_reducible refine Vc.go ?_ fun _ => ?_); (focus (first | omega | (simp only [InK]; omega) | (simp [InK] <;> omega))); simp only [↓sx0, xE, sevalprocAttr])
   refine ⟨(k + 1, some (.slice (some ad) n0 c0)), StLe.auto ?_, ⟨by omega, by omega, ad, n0, c0, rfl⟩, by simp only; omega⟩
   have hf := elsA_first hkl (.slice (some ad) n0 c0)
   have hgd : l.getD k ⟨0, []⟩ = l[k] := by simp [List.getD_eq_getElem?_getD, hkl]
   simp only [gA, rwA, hgd, ← hf]
   simp only [sx2, xR, sevalprocAttr] <;> (try simp) <;> (try omega)
  ·simp only [gA, rwA, if_neg hki]
   simp only [↓sx0, xE, sevalprocAttr]
   refine BrW.yes (by omega) ?_
   simp only [↓sx0, xE, sevalprocAttr]
   refine IxW.nat hkl ?_
   simp only [↓sx0, xE, sevalprocAttr]
   refine DrawW.plan Tok mixed (.q 0 <| .q 1 <| .q 2 <| .q 3 <| .q 4 <| .e 5 [2] <| .q 6 <| .e 7 [] <| .e 8 [] <| .q 9 <| .done) (by kernel_rfl) (by kernel_rfl) ?_
   simp only [↓sx0, xE, sevalprocAttr]
   refine CallI.ctr (cloneS_s b2 _ (kpS l[k].words) (wl k hkl)) (by simp only [sx3, xR, sevalprocAttr] <;> (try simp) <;> (try rfl)) ?_
   rintro _ rfl
   simp only [↓sx0, xE, sevalprocAttr]
   repeat ((with_reducible refine Vc.go ?_ fun _ => ?_); (focus (first | omega | (simp only [InK]; omega) | (simp [InK] <;> omega))); simp only [↓sx0, xE, sevalprocAttr])
   refine ⟨(k + 1, none), StLe.trans StLe.arm (StLe.auto ?_), (by simp only [JA]; omega), by simp only; omega⟩
   have hf : (l.take k).map (eP true) ++ [eP true l[k]] = (l.take (k + 1)).map (eP true) := by rw [List.take_succ_eq_append_getElem hkl, List.map_append]; rfl
   by_cases hz : k + 1 = i
   ·simp only [gA, rwA, if_pos hz, ← hf]
    simp only [sx2, xR, sevalprocAttr] <;> (try simp) <;> (try omega)
   ·simp only [gA, rwA, if_neg hz, ← hf]
    simp only [sx2, xR, sevalprocAttr] <;> (try simp) <;> (try omega)
 ·obtain ⟨h1, h2, ad, n0, c0, rfl⟩ := hJ
  have hgd : l.getD i ⟨0, []⟩ = l[i] := by simp [List.getD_eq_getElem?_getD, hi]
  simp only [gA, rwA, hgd]
  simp only [↓sx0, xE, sevalprocAttr]
  refine BrW.dec (fun hlt => ?_) (fun hlt => ?_)
  ·simp only [↓sx0, xE, sevalprocAttr]
   have hkl : k < l.length := by omega
   have hel : (elsA (l.take k) i (.slice (some ad) n0 c0)).length ≤ 1000 := by simp [elsA]; omega
   refine IxW.nat hkl ?_
   simp only [↓sx0, xE, sevalprocAttr]
   refine DrawW.plan Tok mixed (.q 0 <| .q 1 <| .q 2 <| .q 3 <| .q 4 <| .e 5 [2] <| .q 6 <| .e 7 [] <| .e 8 [] <| .q 9 <| .done) (by kernel_rfl) (by kernel_rfl) ?_
   simp only [↓sx0, xE, sevalprocAttr]
   refine CallI.ctr (cloneS_s b2 _ (kpS l[k].words) (wl k hkl)) (by simp only [sx3, xR, sevalprocAttr] <;> (try simp) <;> (try rfl)) ?_
   rintro _ rfl
   simp only [↓sx0, xE, sevalprocAttr]
   repeat ((with_reducible refine Vc.go ?_ fun _ => ?_); (focus (first | omega | (simp only [InK]; omega) | (simp [InK] <;> omega))); simp only [↓sx0, xE, sevalprocAttr])
   refine ⟨(k + 1, some (.slice (some ad) n0 c0)), StLe.auto ?_, ⟨by simp only; omega, by simp only; omega, ad, n0, c0, rfl⟩, by simp only; omega⟩
   have hf := elsA_next (l := l) h1 hkl (.slice (some ad) n0 c0)
   simp only [gA, rwA, hgd, ← hf]
   simp only [sx2, xR, sevalprocAttr] <;> (try simp) <;> (try omega)
  ·simp only [↓sx0, xE, sevalprocAttr]
   have hke : k = l.length := by simp only at h2; omega
   subst hke
   rw [List.take_length]
   refine ⟨[some 0, some 1], ⟨.row 0, [.own 67 2 (elsA l i (.slice (some ad) n0 c0)), .own 9 1 (l[i].words.map eS)]⟩, 1, .slice (some ad) n0 c0, ⟨rfl, ⟨ad, n0, c0, rfl⟩, rfl⟩, by simp, ?_, ?_, ?_, ?_, ?_⟩
   all_goals (
    simp only [sxL, sxF, sxG, sxY, sxH, sxU, encs, sxN, sevalprocAttr, ne_eq, decide_true, decide_false]
    try simp [kpA, kpS] )
end Go.Proofs.YtmbemlmkfoblhaaGreatDoor
/-
 Chapter 8: words are put in between, by the library's own contract.
-/
namespace Go.Proofs.YtmbemlmkfoblhaaGreatDoor
open Go Go.Vx Go.Shelf Go.RowKit
def rIns : Ren := ⟨fun | 22 => 103 | 29 => 137 | 30 => 138 | 36 => 159 | 17 => 167 | n => n, fun | 24 => 61 | 9 => 9 | 3 => 3 | 4 => 4 | 0 => 0 | n => n, fun n => n⟩
set_option maxRecDepth 100000 in
theorem laysIns : Lays2.n22 Tryz.prog rIns := { mixed := rfl, f17 := Tryz.func167, f22 := Tryz.func103, f29 := Tryz.func137, f30 := Tryz.func138, f36 := Tryz.func159, t0 := Tryz.underlying0, a0 := Tryz.isAgg0, z0 := Tryz.sizeOf0, v0 := Tryz.zeroValue0, t3 := Tryz.underlying3, a3 := Tryz.isAgg3, z3 := Tryz.sizeOf3, v3 := Tryz.zeroValue3, t4 := Tryz.underlying4, a4 := Tryz.isAgg4, z4 := Tryz.sizeOf4, v4 := Tryz.zeroValue4, t9 := Tryz.underlying9, a9 := Tryz.isAgg9, z9 := Tryz.sizeOf9, v9 := Tryz.zeroValue9, t24 := Tryz.underlying61, a24 := Tryz.isAgg61, z24 := Tryz.sizeOf61, v24 := Tryz.zeroValue61, i9 := rfl }
def vS (l : List ByteArray) : List Value := l.map Value.string
theorem rdLL_str {μ : Mu} : ∀ {l : List ByteArray} {vss : List (List Value)}, RdLL μ (l.map eS) vss → vss.flatten = vS l ∧ vss.length = l.length
 | [], [], _ => ⟨rfl, rfl⟩
 | x :: l, vs :: vss, h => by
  simp only [List.map_cons, RdLL, eS] at h
  obtain ⟨h1, h2⟩ := h
  match vs, h1 with
  | [v], h1 =>
   simp only [RdL, Rd] at h1
   obtain ⟨k1, k2⟩ := rdLL_str h2
   exact ⟨by simp [k1, vS, h1.1.1], by simp [k2]⟩
  | [], h1 => simp [RdL] at h1
  | _ :: _ :: _, h1 => simp [RdL] at h1
 | [], _ :: _, h => by simp [RdLL] at h
 | _ :: _, [], h => by simp [RdLL] at h
theorem rdLL_of {μ : Mu} : ∀ l : List ByteArray, RdLL μ (l.map eS) (l.map fun s => [Value.string s])
 | [] => by simp [RdLL]
 | x :: l => by simp only [List.map_cons, RdLL, eS, RdL, Rd]; exact ⟨⟨⟨trivial, rfl⟩, trivial⟩, rdLL_of l⟩
theorem fl_str (l : List ByteArray) : (l.map fun s => [Value.string s]).flatten = vS l := by
 induction l with
 | nil => rfl
 | cons x l ih => simp [ih, vS]
/-- an own row of texts. -/
theorem rowOk_str {μ : Mu} {base : Nat} {w : World} {v : Value} {e : TypeId} {l : List ByteArray} : RowOk μ base w v e 1 (l.map eS) ↔ w.ownsRow base e 1 v l.length (vS l) := by
 constructor
 ·intro h
  obtain ⟨_, vss, h1, h2, h3⟩ := h.tab (by decide)
  obtain ⟨k1, k2⟩ := rdLL_str h3
  rwa [k1, k2] at h1
 ·intro h
  exact .inl ⟨by decide, l.map fun s => [Value.string s], by rw [fl_str, List.length_map]; exact h, by simp, rdLL_of l⟩
theorem vS_len (l : List ByteArray) : (vS l).length = l.length := by simp [vS]
theorem vS_one (l : List ByteArray) : ∀ v ∈ vS l, v.oneCell' = true := fun v hv => by
 obtain ⟨s, _, rfl⟩ := List.mem_map.1 hv; rfl
/-- what stands after an insertion in place. -/
theorem ins_list {L A B R : List Value} {r0 t : Value} (hL : L = A ++ (B ++ r0 :: R)) : (updV (updV L (A.length + 1) B) A.length [t]).take (A.length + B.length + 1) = A ++ t :: B := by
 have hl : L.length = A.length + B.length + 1 + R.length := by rw [hL]; simp; omega
 apply List.ext_getElem?
 intro k
 simp only [updV, List.getElem?_take, List.getElem?_append, List.getElem?_drop, List.length_append, List.length_take, List.length_drop, List.length_singleton, hl]
 have e1 : min (A.length + 1) (A.length + B.length + 1 + R.length) = A.length + 1 := by omega
 have e2 : min A.length (A.length + 1 + B.length + (A.length + B.length + 1 + R.length - (A.length + 1 + B.length))) = A.length := by omega
 simp only [e1, e2]
 by_cases q1 : k < A.length
 ·rw [hL]
  simp [q1, show k < A.length + 1 by omega, show k < A.length + B.length + 1 by omega, show k < A.length + 1 + B.length by omega, List.getElem?_append]
 ·by_cases q2 : k = A.length
  ·subst q2
   simp
   omega
  ·by_cases q3 : k < A.length + B.length + 1
   ·obtain ⟨m, rfl⟩ : ∃ m, k = A.length + 1 + m := ⟨k - (A.length + 1), by omega⟩
    simp [q3, show ¬ A.length + 1 + m < A.length by omega, show A.length + 1 + m - A.length = m + 1 by omega, show ¬ A.length + 1 + (A.length + 1 + m - (A.length + 1)) < A.length + 1 by omega, show m < B.length by omega, show A.length + 1 + m - (A.length + 1) = m by omega, show ¬ m + 1 < 1 by omega, Nat.add_assoc]
    rw [if_pos (by omega), if_neg (by omega), show 1 + m = m + 1 by omega, List.getElem?_cons_succ]
    congr 1
    omega
   ·obtain ⟨m, rfl⟩ : ∃ m, k = A.length + B.length + 1 + m := ⟨k - (A.length + B.length + 1), by omega⟩
    rw [if_neg q3, if_neg (by omega), show A.length + B.length + 1 + m - A.length = (B.length + m) + 1 by omega, List.getElem?_cons_succ, List.getElem?_eq_none (by omega)]
theorem updV_at (A M R vs : List Value) (h : M.length = vs.length) : updV (A ++ (M ++ R)) A.length vs = A ++ (vs ++ R) := by
 unfold updV
 rw [List.take_left, ← h, ← List.drop_drop, List.drop_left, List.drop_left, List.append_assoc]
theorem insert_s (l : List ByteArray) (i : Nat) (t : ByteArray) (hi : i < l.length) (hl : l.length ≤ 1000000) : Turn2 Tryz.prog 103 9 1 (l.map eS) (.int .i64 (i : Int)) 9 1 [[.v (.string t)]] ((l.take i ++ t :: l.drop i).map eS) := by
 refine ⟨⟨_, Tryz.func103, rfl, rfl⟩, fun μ w base v u hb hv hu hne => ?_⟩
 have hu : RowOk μ base w u 9 1 ([t].map eS) := hu
 rw [rowOk_str] at hv hu
 obtain ⟨_, ⟨_, h0⟩ | ⟨ub, uc, ucur, rfl, ub1, ub2, ub3, ub4, ub5, ub6⟩⟩ := hu
 ·simp at h0
 obtain ⟨_, ⟨_, h0⟩ | ⟨b, c, cur, rfl, vb1, vb2, vb3, vb4, vb5, vb6⟩⟩ := hv
 ·omega
 simp only [Nat.mul_one] at vb5 vb6 ub5 ub6
 have hbu : ub ≠ b := fun h => hne b rfl (by rw [h]; rfl)
 have hvs : ∀ (j : Nat) (x : Value), (vS [t])[j]? = some x → w.cell? ⟨ub, 0 + j, none⟩ = some x := fun j x hj => by
  simp only [World.cell?, ub2, Nat.zero_add, Option.isSome_none, Bool.false_eq_true, if_false]
  rw [← ub6, List.getElem?_take] at hj
  split at hj
  ·simpa using hj
  ·cases hj
 have hcs : ∀ (j : Nat) (x : Value), (vS l)[j]? = some x → w.cell? ⟨b, 0 + j, none⟩ = some x := fun j x hj => by
  simp only [World.cell?, vb2, Nat.zero_add, Option.isSome_none, Bool.false_eq_true, if_false]
  rw [← vb6, List.getElem?_take] at hj
  split at hj
  ·simpa using hj
  ·cases hj
 have hA : (vS l).take i = vS (l.take i) := by simp [vS, List.map_take]
 have hB : (vS l).drop i = vS (l.drop i) := by simp [vS, List.map_drop]
 have hlen : (l.take i).length = i := by rw [List.length_take]; omega
 have hlen2 : (l.drop i).length = l.length - i := by simp
 have hres : vS (l.take i ++ t :: l.drop i) = vS (l.take i) ++ Value.string t :: vS (l.drop i) := by simp [vS]
 have hrl : (l.take i ++ t :: l.drop i).length = l.length + 1 := by simp; omega
 by_cases hroom : l.length + 1 ≤ c
 ·have hsp : ∀ j, j < l.length + 1 → (w.cell? ⟨b, 0 + j, none⟩).isSome = true := fun j hj => by
   simp only [World.cell?, vb2, Nat.zero_add, Option.isSome_none, Bool.false_eq_true, if_false]
   simp; omega
  have h := Any2.slices_Insert_string_shift laysIns b 0 l.length c i ub 0 1 uc (vS l) (vS [t]) w hi (by decide) hroom (by simp only [maxLen] at vb4; omega) hbu (vS_len l) rfl hcs hsp (fun j _ => by simp [World.frozen?, vb2]) hvs (vS_one l) (vS_one [t]) 9 9 uc c (by simp [World.shape?, ub2, ub5]) (by simp [World.shape?, vb2, vb5]) (by omega) (by simp [World.frozen?, ub2]) (by simp [World.frozen?, ub2])
  refine Calls.mono h ?_
  rintro en w' ⟨rfl, rfl⟩
  obtain ⟨c1, k1, k2⟩ := setCells_heap ((vS l).drop i) (0 + (i + 1)) w.drew cur (t := 9) (fz := (0, 0)) vb2 (by simp [vS]; omega)
  have k2l : c1.size = c := by rw [← Array.length_toList, k2, updV_len (by simp [vS]; omega)]; simp [vb5]
  obtain ⟨c2, k3, k4⟩ := setCells_heap (vS [t]) (0 + i) _ c1 k1 (by simp [vS]; omega)
  have k4l : c2.size = c := by rw [← Array.length_toList, k4, updV_len (by simp [vS]; omega)]; simp [k2l]
  obtain ⟨o1, o2, o3, o4⟩ := setCells_rest w.drew b (0 + (i + 1)) ((vS l).drop i)
  obtain ⟨p1, p2, p3, p4⟩ := setCells_rest (w.drew.setCells b (0 + (i + 1)) ((vS l).drop i)) b (0 + i) (vS [t])
  refine ⟨_, rfl, ?_, ⟨_, _, _, rfl⟩, ⟨p1.trans o1, p2.trans o2, p3.trans o3, by rw [p4, o4]; exact Nat.le_refl _, fun x hx hxb => ?_, fun x hx => .inl hx⟩⟩
  ·rw [rowOk_str]
   refine ⟨by rw [vS_len, Nat.mul_one], .inr ⟨b, c, c2, by rw [hrl], vb1, k3, by rw [hrl]; exact hroom, vb4, by rw [Nat.mul_one]; exact k4l, ?_⟩⟩
   obtain ⟨r0, R, hR⟩ : ∃ r0 R, cur.toList.drop l.length = r0 :: R := by
    cases hd : cur.toList.drop l.length with
    | nil => have := congrArg List.length hd; simp at this; omega
    | cons a b => exact ⟨a, b, rfl⟩
   have hcur : cur.toList = vS (l.take i) ++ (vS (l.drop i) ++ r0 :: R) := by
    rw [← List.append_assoc, ← hA, ← hB, List.take_append_drop, ← hR, ← vb6, List.take_append_drop]
   have := ins_list (t := Value.string t) hcur
   rw [vS_len, vS_len, hlen, hlen2] at this
   rw [k4, k2, hrl, Nat.mul_one, hres, hB, Nat.zero_add, Nat.zero_add, show l.length + 1 = i + (l.length - i) + 1 by omega]
   exact this
  ·rw [World.heap_setCells_other _ _ _ _ (by rw [o4]; exact hx) (fun e => hxb (by rw [e]; rfl))]
   exact World.heap_setCells_other w.drew b _ _ hx (fun e => hxb (by rw [e]; rfl))
 ·have h := Any2.slices_Insert_string_grow laysIns b 0 l.length c i ub 0 1 uc (vS l) (vS [t]) w hi (by decide) vb3 (by omega) (by omega) (vS_len l) rfl hcs hvs (vS_one l) (vS_one [t])
  refine Calls.mono h ?_
  generalize hZ1 : Builtin.zeroCells (Value.string ⟨#[]⟩).cells (l.length + 1 - i) = Z1
  generalize hZ2 : Builtin.zeroCells (Value.string ⟨#[]⟩).cells (grownCap w (l.length + 1) c (rIns.t 9) - (l.length + 1)) = Z2
  have hge := grownCap_ge w (l.length + 1) c (rIns.t 9)
  have hle := grownCap_le_maxLen w (l.length + 1) c (rIns.t 9) (by simp only [maxLen]; omega)
  have z1 : Z1.size = l.length + 1 - i := by rw [← hZ1, size_zeroCells]; simp [Value.cells]
  have z2 : Z2.size = grownCap w (l.length + 1) c (rIns.t 9) - (l.length + 1) := by rw [← hZ2, size_zeroCells]; simp [Value.cells]
  generalize grownCap w (l.length + 1) c (rIns.t 9) = C2 at hge hle z2 ⊢
  rintro en w' ⟨rfl, rfl⟩
  have hc0 : (((vS l).take i).toArray ++ Z1 ++ Z2).size = C2 := by simp [z1, z2, vS]; omega
  have hcl : (((vS l).take i).toArray ++ Z1 ++ Z2).toList.length = C2 := by rw [Array.length_toList]; exact hc0
  have hN := heap_alloc_new w (.cells (((vS l).take i).toArray ++ Z1 ++ Z2) 9)
  obtain ⟨c1, k1, k2⟩ := setCells_heap (vS [t]) i (w.alloc (.cells (((vS l).take i).toArray ++ Z1 ++ Z2) 9)).drew _ (t := 9) (fz := (0, 0)) hN (by rw [hc0]; simp [vS]; omega)
  have k2l : c1.size = C2 := by rw [← Array.length_toList, k2, updV_len (by rw [hcl]; simp [vS]; omega), hcl]
  obtain ⟨c2, k3, k4⟩ := setCells_heap ((vS l).drop i) (i + 1) ((w.alloc (.cells (((vS l).take i).toArray ++ Z1 ++ Z2) 9)).drew.setCells w.heap.size i (vS [t])).drew c1 k1 (by rw [k2l]; simp [vS]; omega)
  have k4l : c2.size = C2 := by rw [← Array.length_toList, k4, updV_len (by rw [show c1.toList.length = C2 by rw [Array.length_toList]; exact k2l]; simp [vS]; omega), Array.length_toList, k2l]
  obtain ⟨o1, o2, o3, o4⟩ := setCells_rest (w.alloc (.cells (((vS l).take i).toArray ++ Z1 ++ Z2) 9)).drew w.heap.size i (vS [t])
  obtain ⟨p1, p2, p3, p4⟩ := setCells_rest ((w.alloc (.cells (((vS l).take i).toArray ++ Z1 ++ Z2) 9)).drew.setCells w.heap.size i (vS [t])).drew w.heap.size (i + 1) ((vS l).drop i)
  have hBel : Below w.heap.size w (w.alloc (.cells (((vS l).take i).toArray ++ Z1 ++ Z2) 9)) := (Below.refl _ _).alloc (Nat.le_refl _) _
  refine ⟨_, rfl, ?_, ⟨_, _, _, rfl⟩, ⟨p1.trans (o1.trans hBel.os), p2.trans (o2.trans hBel.tape), p3.trans (o3.trans hBel.output), ?_, fun x hx hxb => ?_, fun x hx => .inr ?_⟩⟩
  ·rw [rowOk_str]
   refine ⟨by rw [vS_len, Nat.mul_one], .inr ⟨w.heap.size, C2, c2, by rw [hrl], hb, k3, by rw [hrl]; exact hge, hle, by rw [Nat.mul_one]; exact k4l, ?_⟩⟩
   rw [k4, k2, hrl, Nat.mul_one, hres, hB]
   have hZ : (Z1 ++ Z2).toList = Z1.toList.take 1 ++ (Z1.toList.drop 1 ++ Z2.toList) := by
    rw [Array.toList_append, ← List.append_assoc, List.take_append_drop]
   have e1 : (((vS l).take i).toArray ++ Z1 ++ Z2).toList = vS (l.take i) ++ (Z1.toList.take 1 ++ (Z1.toList.drop 1 ++ Z2.toList)) := by
    rw [Array.append_assoc, Array.toList_append, hZ, hA]
   have hz11 : (Z1.toList.take 1).length = (vS [t]).length := by simp [vS, z1]; omega
   have hi2 : i = (vS (l.take i)).length := by rw [vS_len, hlen]
   have e2 : updV (((vS l).take i).toArray ++ Z1 ++ Z2).toList i (vS [t]) = (vS (l.take i) ++ vS [t]) ++ (Z1.toList.drop 1 ++ Z2.toList) := by
    rw [e1]
    conv => lhs; arg 2; rw [hi2]
    rw [updV_at _ _ _ _ hz11, List.append_assoc]
   rw [e2]
   have e3 : updV ((vS (l.take i) ++ vS [t]) ++ (Z1.toList.drop 1 ++ Z2.toList)) (i + 1) (vS (l.drop i)) = (vS (l.take i) ++ vS [t]) ++ (vS (l.drop i) ++ Z2.toList) := by
    have := updV_at (vS (l.take i) ++ vS [t]) (Z1.toList.drop 1) Z2.toList (vS (l.drop i)) (by rw [vS_len, hlen2]; simp [z1]; omega)
    rwa [show (vS (l.take i) ++ vS [t]).length = i + 1 by rw [List.length_append, vS_len, hlen]; rfl] at this
   rw [e3, ← List.append_assoc, List.take_left' (by simp [vS]; omega)]
   simp [vS]
  ·exact Nat.le_trans (Nat.le_trans hBel.size (Nat.le_of_eq o4.symm)) (Nat.le_of_eq p4.symm)
  ·have q1 : x < ((w.alloc (.cells (((vS l).take i).toArray ++ Z1 ++ Z2) 9)).drew.setCells w.heap.size i (vS [t])).drew.heap.size := Nat.lt_of_lt_of_le (Nat.lt_of_lt_of_le hx hBel.size) (Nat.le_of_eq o4.symm)
   have q2 := World.heap_setCells_other ((w.alloc (.cells (((vS l).take i).toArray ++ Z1 ++ Z2) 9)).drew.setCells w.heap.size i (vS [t])).drew w.heap.size (i + 1) ((vS l).drop i) q1 (by omega)
   have q3 := World.heap_setCells_other (w.alloc (.cells (((vS l).take i).toArray ++ Z1 ++ Z2) 9)).drew w.heap.size i (vS [t]) (Nat.lt_of_lt_of_le hx hBel.size) (by omega)
   exact q2.trans (q3.trans (hBel.block x hx))
  ·simp only [ob, Value.ownBlock, Option.some.injEq] at hx
   omega
end Go.Proofs.YtmbemlmkfoblhaaGreatDoor
/-
 Chapter 8, walks: a word that comes in.
-/
namespace Go.Proofs.YtmbemlmkfoblhaaGreatDoor
open Go Go.Vx
set_option maxRecDepth 20000
def insP (p : Pt) (k : Nat) (t : ByteArray) : Pt := ⟨p.kind, p.words.take k ++ t :: p.words.drop k⟩
theorem elsA_get {l : List Pt} {i : Nat} (hi : i < l.length) (u : Value) : (elsA l i u)[i]? = some [.v (.int .i64 l[i].kind), .v u] := by
 unfold elsA
 have hgd : l.getD i ⟨0, []⟩ = l[i] := by simp [List.getD_eq_getElem?_getD, hi]
 rw [hgd, List.getElem?_set_self (by simpa using hi)]
theorem elsA_put {l : List Pt} {i : Nat} (hi : i < l.length) (u : Value) (p : Pt) (hk : p.kind = l[i].kind) : ((elsA l i u).modify i fun x => modE x 1 [.sl true 1 (p.words.map eS)]) = (l.set i p).map (eP true) := by
 apply List.ext_getElem?
 intro k
 rw [List.getElem?_modify]
 by_cases h : i = k
 ·subst h
  rw [elsA_get hi]
  simp [modE, eP, hk, hi]
 ·unfold elsA
  simp [h]
theorem elsA_len (l : List Pt) (i : Nat) (u : Value) : (elsA l i u).length = l.length := by simp [elsA]
theorem mapE : (∀ k v, upE k v [] = [[.v k, .v v]]) ∧ (∀ key val k v l, upE key val ([.v k, .v v] :: l) = if kEq key k = true then [.v key, .v val] :: l else [.v k, .v v] :: upE key val l) ∧ (∀ a b, kEq (.int .i64 a) (.int .i64 b) = decide (a = b)) ∧ (entsOk (some .i64) [] = true) ∧
  (∀ k v l, entsOk (some .i64) ([.v (.int .i64 k), .v v] :: l) = entsOk (some .i64) l) ∧ (∀ key, lkE key [] = none) ∧ (∀ key k v l, lkE key ([.v k, .v v] :: l) = if kEq key k = true then some v else lkE key l) ∧ (∀ z v, lkV false z (some v) = .v v) ∧ (∀ z, lkV false z none = .v z) ∧ (∀ v z : Value, (some v).getD z = v) ∧ (∀ z : Value, (none : Option Value).getD z = z) := by
 refine ⟨fun _ _ => rfl, fun _ _ _ _ _ => rfl, fun a b => ?_, rfl, fun k v l => ?_, fun _ => rfl, fun _ _ _ _ => rfl, fun _ _ => rfl, fun _ => rfl, fun _ _ => rfl, fun _ => rfl⟩
 ·rw [Bool.eq_iff_iff]; simp [kEq]
 ·simp [entsOk, entOk, keyIs]
set_option maxHeartbeats 8000000 in
theorem appliedIn_s (b b2 : Bool) (l : List Pt) (m : Mk) (i k : Nat) (hm : m.mark = 2) (hp : m.part = i) (hw : m.word = k) (hl : l.length ≤ 1000) (hi : i < l.length) (hws : ∀ p ∈ l, p.words.length ≤ 1000) (hk : k < l[i].words.length)
  (he : (partsErr (l.set i (insP l[i] k m.new))).2 = 0) : Ctr Tryz.prog 51 [.sl b 2 (l.map (eP b2)), mV m] (fun rr => rr = ⟨.tup [.sl true 2 ((l.set i (insP l[i] k m.new)).map (eP true)), (.v (.int .i64 0))], []⟩) := by
 have hwi : l[i].words.length ≤ 1000 := hws _ (List.getElem_mem hi)
 have encs := And.intro encs mapE
 refine Ctr.of (rs := [.tmp 4, .tmp 5]) Tok true Tryz.func51 rfl rfl rfl rfl (by simp [ofDL]) (fun w0 kp => ?_)
 simp only [↓sx0, sxE, encs, sevalprocAttr]
 rw [hm, hp, hw]
 refine DrawW.plan Tok mixed (.q 0 <| .q 2 <| .e 1 [2] <| .e 3 [] <| .q 4 <| .q 5 <| .q 6 <| .q 7 <| .q 8 <| .done) (by kernel_rfl) (by kernel_rfl) ?_
 simp only [↓sx0, sxE, encs, sevalprocAttr]
 refine CallI.ctrA (clone_s b b2 l i hl hi hws (by omega)) (by simp only [sx3, encs, sxR, sevalprocAttr] <;> (try simp) <;> (try rfl)) ?_
 rintro _ _ _ ⟨rfl, ⟨ad, n0, c0, rfl⟩, rfl⟩
 simp only [↓sx0, sxE, encs, sevalprocAttr]
 refine CallI.inlG (rs := [.tmp 4, .tmp 5]) Tok (fun h => by first | cases h; done | rfl) Tryz.func81 rfl rfl rfl rfl (by simp) (fun ρ σ μ fr lp => ?_) (by refine ⟨_, ?_, rfl⟩; rfl)
 simp only [↓sx0, sxE, encs, sevalprocAttr]
 have hel := elsA_len l i (.slice (some ad) n0 c0)
 have hge := elsA_get hi (.slice (some ad) n0 c0)
 refine BrW.no (by omega) ?_
 simp only [↓sx0, sxE, encs, sevalprocAttr]
 repeat ((with_reducible refine Vc.go ?_ fun _ => ?_); (focus (first | omega | (simp only [InK]; omega) | (simp [InK] <;> omega))); simp only [↓sx0, sxE, encs, sevalprocAttr])
 refine DrawW.plan Tok mixed (.q 0 <| .q 1 <| .q 2 <| .q 3 <| .q 4 <| .q 5 <| .q 6 <| .q 7 <| .q 8 <| .done) (by kernel_rfl) (by kernel_rfl) ?_
 simp only [↓sx0, sxE, encs, sevalprocAttr]
 refine ⟨by omega, _, (by rw [Int.toNat_natCast]; exact hge), ?_⟩
 simp only [↓sx0, sxE, encs, sevalprocAttr]
 repeat ((with_reducible refine Vc.go ?_ fun _ => ?_); (focus (first | omega | (simp only [InK]; omega) | (simp [InK] <;> omega))); simp only [↓sx0, sxE, encs, sevalprocAttr])
 refine BrW.no (by omega) ?_
 simp only [↓sx0, sxE, encs, sevalprocAttr]
 refine DrawW.plan Tok mixed (.q 0 <| .q 1 <| .q 2 <| .q 3 <| .q 4 <| .q 5 <| .q 6 <| .q 7 <| .e 8 [4] <| .e 9 [] <| .q 10 <| .q 11 <| .e 12 [] <| .done) (by kernel_rfl) (by kernel_rfl) ?_
 simp only [↓sx0, sxE, encs, sevalprocAttr]
 refine ⟨by omega, _, (by rw [Int.toNat_natCast]; exact hge), ?_⟩
 simp only [↓sx0, sxE, encs, sevalprocAttr]
 refine CallI.turn2 (r := 1) (k := 3) (x := .int .i64 (k : Int)) (e := 9) (s := 1) (e2 := 9) (s2 := 1) rfl rfl (by decide) (by decide) (insert_s l[i].words k m.new hk (by omega)) ?_
 simp only [↓sx0, sxE, encs, sevalprocAttr]
 repeat ((with_reducible refine Vc.go ?_ fun _ => ?_); (focus (first | omega | (simp only [InK]; omega) | (simp [InK] <;> omega))); simp only [↓sx0, sxE, encs, sevalprocAttr])
 rw [Int.toNat_natCast, show (l[i].words.take k ++ m.new :: l[i].words.drop k) = (insP l[i] k m.new).words from rfl, elsA_put hi (.slice (some ad) n0 c0) (insP l[i] k m.new) rfl]
 refine CallI.fn (checkCopy_s false true (l.set i (insP l[i] k m.new))) (by simp only [sx3, encs, sxR, sevalprocAttr] <;> (try simp) <;> (try rfl)) ?_
 simp only [↓sx0, sxE, encs, sevalprocAttr]
 refine BrW.no (by simp [he]) ?_
 simp only [↓sx0, sxE, encs, sevalprocAttr]
 have hkp := kpP (l.set i (insP l[i] k m.new))
 refine EndW.fn ?_ ?_ <;> simp only [sx4, encs, kpLL_map, sxR, sevalprocAttr] <;> (try simp [hkp]) <;> (try omega)
theorem AppliedIn_s (b b2 : Bool) (l : List Pt) (m : Mk) (i k : Nat) (hm : m.mark = 2) (hp : m.part = i) (hw : m.word = k) (hl : l.length ≤ 1000) (hi : i < l.length) (hws : ∀ p ∈ l, p.words.length ≤ 1000) (hk : k < l[i].words.length) (hz : MkSz m)
  (h0 : (partsErr l).2 = 0) (h1 : mkErr m = 0) (he : (partsErr (l.set i (insP l[i] k m.new))).2 = 0) : Ctr Tryz.prog 21 [.sl b 2 (l.map (eP b2)), mV m] (fun rr => rr = ⟨.tup [.sl true 2 ((l.set i (insP l[i] k m.new)).map (eP true)), (.v (.int .i64 0))], []⟩) := by
 refine Ctr.of (rs := [.tmp 4, .tmp 5]) Tok true Tryz.func21 rfl rfl rfl rfl (by simp [ofDL]) (fun w0 kp => ?_)
 simp only [↓sx0, xE, sevalprocAttr]
 refine CallI.fn (checkCopy_s b b2 l) (by simp only [sx3, xR, sevalprocAttr] <;> (try simp) <;> (try rfl)) ?_
 simp only [↓sx0, xE, sevalprocAttr]
 refine BrW.no (by simp [h0]) ?_
 simp only [↓sx0, xE, sevalprocAttr]
 refine CallI.fn (checkMark_s m hz) (by simp only [sx3, xR, sevalprocAttr] <;> (try simp) <;> (try rfl)) ?_
 simp only [↓sx0, xE, sevalprocAttr]
 refine BrW.no (by simp [h1]) ?_
 simp only [↓sx0, xE, sevalprocAttr]
 refine CallI.fn (appliedIn_s b b2 l m i k hm hp hw hl hi hws hk he) (by simp only [sx3, xR, sevalprocAttr] <;> (try simp) <;> (try rfl)) ?_
 simp only [↓sx0, xE, sevalprocAttr]
 have hkp := kpP (l.set i (insP l[i] k m.new))
 refine EndW.fn ?_ ?_ <;> simp only [sx4, xK, sevalprocAttr] <;> (try simp [hkp]) <;> (try omega)
end Go.Proofs.YtmbemlmkfoblhaaGreatDoor
/-
 Chapter 8, walks: what a mark moves.
-/
namespace Go.Proofs.YtmbemlmkfoblhaaGreatDoor
open Go Go.Vx
set_option maxRecDepth 20000
def lenM (m : Mk) : Int := if m.mark = 1 then -1 else if m.mark = 2 then 1 else 0
def shM (m : Mk) : Int := if m.mark = 5 then 1 else if m.mark = 6 then -1 else 0
def ahM (m : Mk) : Int := if m.mark = 1 then 1 else if m.mark = 3 then 1 else if m.mark = 4 then 2 else 0
def owB (m : Mk) : Bool := decide (1 ≤ m.mark ∧ m.mark ≤ 4)
theorem lengthens_s (m : Mk) : Ctr Tryz.prog 143 [mV m] (fun rr => rr = ⟨(.v (.int .i64 (lenM m))), []⟩) := by
 have encs := And.intro encs mapE
 by_cases h1 : m.mark = 1
 ·rw [show lenM m = -1 by rw [lenM, if_pos h1]]
  refine Ctr.of (rs := [.tmp 2]) Tok true Tryz.func143 rfl rfl rfl rfl (by simp [ofDL]) (fun w0 kp => ?_)
  simp only [↓sx0, sxE, encs, sevalprocAttr]
  rw [h1]
  simp only [↓sx0, sxE, encs, sevalprocAttr]
  refine EndW.fn ?_ ?_ <;> simp only [sx4, encs, kpLL_map, sxR, sevalprocAttr] <;> (try simp) <;> (try omega)
 ·have encs := And.intro encs (eq_false h1)
  by_cases h2 : m.mark = 2
  ·rw [show lenM m = 1 by rw [lenM, if_neg h1, if_pos h2]]
   refine Ctr.of (rs := [.tmp 2]) Tok true Tryz.func143 rfl rfl rfl rfl (by simp [ofDL]) (fun w0 kp => ?_)
   simp only [↓sx0, sxE, encs, sevalprocAttr]
   rw [h2]
   simp only [↓sx0, sxE, encs, sevalprocAttr]
   refine EndW.fn ?_ ?_ <;> simp only [sx4, encs, kpLL_map, sxR, sevalprocAttr] <;> (try simp) <;> (try omega)
  ·have encs := And.intro encs (eq_false h2)
   rw [show lenM m = 0 by rw [lenM, if_neg h1, if_neg h2]]
   refine Ctr.of (rs := [.tmp 2]) Tok true Tryz.func143 rfl rfl rfl rfl (by simp [ofDL]) (fun w0 kp => ?_)
   simp only [↓sx0, sxE, encs, sevalprocAttr]
   refine EndW.fn ?_ ?_ <;> simp only [sx4, encs, kpLL_map, sxR, sevalprocAttr] <;> (try simp) <;> (try omega)
theorem ofWords_s (m : Mk) : Ctr Tryz.prog 142 [mV m] (fun rr => rr = ⟨(.v (.bool (owB m))), []⟩) := by
 refine Ctr.of (rs := [.tmp 2]) Tok true Tryz.func142 rfl rfl rfl rfl (by simp [ofDL]) (fun w0 kp => ?_)
 simp only [↓sx0, xE, sevalprocAttr]
 refine CallI.fn (within_s m.mark 1 4) (by simp only [sx3, xR, sevalprocAttr] <;> (try simp) <;> (try rfl)) ?_
 simp only [↓sx0, xE, sevalprocAttr]
 refine EndW.fn ?_ ?_ <;> simp only [sx4, xK, sevalprocAttr] <;> (try simp [owB]) <;> (try omega)
theorem ahead_s (m : Mk) (hw : 0 ≤ m.word ∧ m.word ≤ 1000) : Ctr Tryz.prog 144 [mV m] (fun rr => rr = ⟨.agg [(.v (.int .i64 m.word)), (.v (.int .i64 (m.word + ahM m)))], []⟩) := by
 have encs := And.intro encs mapE
 by_cases h1 : m.mark = 1
 ·rw [show ahM m = 1 by rw [ahM, if_pos h1]]
  refine Ctr.of (rs := [.cell 2 170]) Tok true Tryz.func144 rfl rfl rfl rfl (by simp [ofDL]) (fun w0 kp => ?_)
  simp only [↓sx0, sxE, encs, sevalprocAttr]
  rw [h1]
  simp only [↓sx0, sxE, encs, sevalprocAttr]
  repeat ((with_reducible refine Vc.go ?_ fun _ => ?_); (focus (first | omega | (simp only [InK]; omega) | (simp [InK] <;> omega))); simp only [↓sx0, sxE, encs, sevalprocAttr])
  refine EndW.fn ?_ ?_ <;> simp only [sx4, encs, kpLL_map, sxR, sevalprocAttr] <;> (try simp) <;> (try omega)
 ·have encs := And.intro encs (eq_false h1)
  by_cases h2 : m.mark = 3
  ·rw [show ahM m = 1 by rw [ahM, if_neg h1, if_pos h2]]
   refine Ctr.of (rs := [.cell 2 170]) Tok true Tryz.func144 rfl rfl rfl rfl (by simp [ofDL]) (fun w0 kp => ?_)
   simp only [↓sx0, sxE, encs, sevalprocAttr]
   rw [h2]
   simp only [↓sx0, sxE, encs, sevalprocAttr]
   repeat ((with_reducible refine Vc.go ?_ fun _ => ?_); (focus (first | omega | (simp only [InK]; omega) | (simp [InK] <;> omega))); simp only [↓sx0, sxE, encs, sevalprocAttr])
   refine EndW.fn ?_ ?_ <;> simp only [sx4, encs, kpLL_map, sxR, sevalprocAttr] <;> (try simp) <;> (try omega)
  ·have encs := And.intro encs (eq_false h2)
   by_cases h3 : m.mark = 4
   ·rw [show ahM m = 2 by rw [ahM, if_neg h1, if_neg h2, if_pos h3]]
    refine Ctr.of (rs := [.cell 2 170]) Tok true Tryz.func144 rfl rfl rfl rfl (by simp [ofDL]) (fun w0 kp => ?_)
    simp only [↓sx0, sxE, encs, sevalprocAttr]
    rw [h3]
    simp only [↓sx0, sxE, encs, sevalprocAttr]
    repeat ((with_reducible refine Vc.go ?_ fun _ => ?_); (focus (first | omega | (simp only [InK]; omega) | (simp [InK] <;> omega))); simp only [↓sx0, sxE, encs, sevalprocAttr])
    refine EndW.fn ?_ ?_ <;> simp only [sx4, encs, kpLL_map, sxR, sevalprocAttr] <;> (try simp) <;> (try omega)
   ·have encs := And.intro encs (eq_false h3)
    rw [show ahM m = 0 by rw [ahM, if_neg h1, if_neg h2, if_neg h3]]
    refine Ctr.of (rs := [.cell 2 170]) Tok true Tryz.func144 rfl rfl rfl rfl (by simp [ofDL]) (fun w0 kp => ?_)
    simp only [↓sx0, sxE, encs, sevalprocAttr]
    repeat ((with_reducible refine Vc.go ?_ fun _ => ?_); (focus (first | omega | (simp only [InK]; omega) | (simp [InK] <;> omega))); simp only [↓sx0, sxE, encs, sevalprocAttr])
    refine EndW.fn ?_ ?_ <;> simp only [sx4, encs, kpLL_map, sxR, sevalprocAttr] <;> (try simp) <;> (try omega)
theorem ahM_b (m : Mk) : 0 ≤ ahM m ∧ ahM m ≤ 2 := by unfold ahM; repeat' split <;> omega
theorem lenM_b (m : Mk) : -1 ≤ lenM m ∧ lenM m ≤ 1 := by unfold lenM; repeat' split <;> omega
theorem behind_s (m : Mk) (hw : 0 ≤ m.word ∧ m.word ≤ 1000) : Ctr Tryz.prog 145 [mV m] (fun rr => rr = ⟨.agg [(.v (.int .i64 m.word)), (.v (.int .i64 (m.word + ahM m + lenM m)))], []⟩) := by
 have h1 := ahM_b m
 have h2 := lenM_b m
 refine Ctr.of (rs := [.cell 2 170]) Tok true Tryz.func145 rfl rfl rfl rfl (by simp [ofDL]) (fun w0 kp => ?_)
 simp only [↓sx0, xE, sevalprocAttr]
 refine CallI.fn (ahead_s m hw) (by simp only [sx3, xR, sevalprocAttr] <;> (try simp) <;> (try rfl)) ?_
 simp only [↓sx0, xE, sevalprocAttr]
 refine DrawW.plan Tok mixed (.q 0 <| .q 1 <| .q 2 <| .e 3 [1] <| .q 4 <| .q 5 <| .e 6 [] <| .done) (by kernel_rfl) (by kernel_rfl) ?_
 simp only [↓sx0, xE, sevalprocAttr]
 refine CallI.fn (lengthens_s m) (by simp only [sx3, xR, sevalprocAttr] <;> (try simp) <;> (try rfl)) ?_
 simp only [↓sx0, xE, sevalprocAttr]
 repeat ((with_reducible refine Vc.go ?_ fun _ => ?_); (focus (first | omega | (simp only [InK]; omega) | (simp [InK] <;> omega))); simp only [↓sx0, xE, sevalprocAttr])
 refine EndW.fn ?_ ?_ <;> simp only [sx4, xK, sevalprocAttr] <;> (try simp) <;> (try omega)
theorem indexM_s (b : Bool) (f : Nat) (p : Mk → Bool) (l : List Mk) (hl : l.length ≤ 1000000000) (hof : ∀ x ∈ l, Ctr Tryz.prog f [mV x] (fun rr => rr = ⟨(.v (.bool (p x))), []⟩)) : Ctr Tryz.prog 112 [.sl b 7 (l.map eM), .clo f []] (fun rr => rr = ⟨(.v (.int .i64 (ixG p l))), []⟩) := by
 refine Ctr.of (rs := [.tmp 4]) Tok true Tryz.func112 rfl rfl rfl rfl (by simp [ofDL]) (fun w0 kp => ?_)
 simp only [↓sx0, xE, sevalprocAttr]
 refine LoopW.comp [0, 1, 7, 8] (by simp only [sx2, xR, sevalprocAttr] <;> (try simp) <;> (try omega)) ?_
 simp only [sx2, sxR, sevalprocAttr]
 refine LoopW.up Tok (fun k : Nat => [(8, (.v (.int .i64 k)))]) (fun k => []) (fun k => []) (fun k => []) (fun k => k ≤ l.length ∧ ∀ j (_ : j < k) (h2 : j < l.length), p l[j] = false) (fun k => l.length - k) (0) (by simp only [sx2, xR, sevalprocAttr] <;> (try simp) <;> (try omega)) ?_ ?_
 ·exact ⟨by omega, fun j h => absurd h (Nat.not_lt_zero _)⟩
 rintro k ⟨hk, ht⟩
 simp only [↓sx0, xE, sevalprocAttr]
 refine BrW.dec (fun hlt => ?_) (fun hlt => ?_)
 ·simp only [↓sx0, xE, sevalprocAttr]
  have hlt : k < l.length := by omega
  refine IxW.nat hlt ?_
  simp only [↓sx0, xE, sevalprocAttr]
  refine CallI.fn (hof l[k] (List.getElem_mem hlt)) (by simp only [sx3, xR, sevalprocAttr] <;> (try simp) <;> (try rfl)) ?_
  simp only [↓sx0, xE, sevalprocAttr]
  refine BrW.of (fun hb => ?_) (fun hb => ?_)
  ·simp only [↓sx0, xE, sevalprocAttr]
   have := ixG_at hlt hb ht
   refine EndW.fn ?_ ?_ <;> simp only [sx4, xK, sevalprocAttr] <;> (try simp [this]) <;> (try omega)
  ·simp only [↓sx0, xE, sevalprocAttr]
   (with_reducible refine Vc.go ?_ fun _ => ?_); focus (first | omega | (simp only [InK]; omega) | (simp [InK] <;> omega))
   simp only [↓sx0, xE, sevalprocAttr]
   refine ⟨k + 1, StLe.auto (by simp only [sx2, xR, sevalprocAttr] <;> (try simp) <;> (try omega)), ?_, ?_⟩
   ·refine ⟨hlt, fun j h h2 => ?_⟩
    by_cases e : j = k
    ·subst e; exact hb
    ·exact ht j (by omega) h2
   ·omega
 ·simp only [↓sx0, xE, sevalprocAttr]
  have hke : k = l.length := by omega
  subst hke
  have := ixG_no (l := l) (p := p) fun j h => ht j h h
  refine EndW.fn ?_ ?_ <;> simp only [sx4, xK, sevalprocAttr] <;> (try simp [this]) <;> (try omega)
theorem containsM_s (b : Bool) (f : Nat) (p : Mk → Bool) (l : List Mk) (hl : l.length ≤ 1000000000) (hof : ∀ x ∈ l, Ctr Tryz.prog f [mV x] (fun rr => rr = ⟨(.v (.bool (p x))), []⟩)) : Ctr Tryz.prog 84 [.sl b 7 (l.map eM), .clo f []] (fun rr => rr = ⟨(.v (.bool (l.any p))), []⟩) := by
 refine Ctr.of (rs := [.tmp 4]) Tok true Tryz.func84 rfl rfl rfl rfl (by simp [ofDL]) (fun w0 kp => ?_)
 simp only [↓sx0, xE, sevalprocAttr]
 refine CallI.fn (indexM_s b f p l hl hof) (by simp only [sx3, xR, sevalprocAttr] <;> (try simp) <;> (try rfl)) ?_
 simp only [↓sx0, xE, sevalprocAttr]
 rw [ixG_any]
 refine EndW.fn ?_ ?_ <;> simp only [sx4, xK, sevalprocAttr] <;> (try simp) <;> (try omega)
def p0B (m : Mk) : Bool := ptsB m && decide (m.word = 0)
theorem swapped1_s (m : Mk) : Ctr Tryz.prog 85 [mV m] (fun rr => rr = ⟨(.v (.bool (p0B m))), []⟩) := by
 refine Ctr.of (rs := [.tmp 2]) Tok true Tryz.func85 rfl rfl rfl rfl (by simp [ofDL]) (fun w0 kp => ?_)
 simp only [↓sx0, xE, sevalprocAttr]
 refine CallI.fn (parts_s m) (by simp only [sx3, xR, sevalprocAttr] <;> (try simp) <;> (try rfl)) ?_
 simp only [↓sx0, xE, sevalprocAttr]
 refine BrW.of (fun h => ?_) (fun h => ?_)
 ·simp only [↓sx0, xE, sevalprocAttr]
  rw [show p0B m = decide (m.word = 0) by rw [p0B, h, Bool.true_and]]
  refine EndW.fn ?_ ?_ <;> simp only [sx4, xK, sevalprocAttr] <;> (try simp) <;> (try omega)
 ·simp only [↓sx0, xE, sevalprocAttr]
  rw [show p0B m = false by rw [p0B, h, Bool.false_and]]
  refine EndW.fn ?_ ?_ <;> simp only [sx4, xK, sevalprocAttr] <;> (try simp) <;> (try omega)
end Go.Proofs.YtmbemlmkfoblhaaGreatDoor
/-
 Chapter 8, walks: two marks in the other order, where none breaks or joins.
-/
namespace Go.Proofs.YtmbemlmkfoblhaaGreatDoor
open Go Go.Vx
set_option maxRecDepth 20000
def wordsP (a b : Mk) : Option (Mk × Mk) :=
 if b.word + ahM b ≤ a.word then some ({ a with word := a.word + lenM b }, b)
 else if a.word + ahM a + lenM a ≤ b.word then some (a, { b with word := b.word - lenM a }) else none
def quietP (a b : Mk) : Option (Mk × Mk) :=
 if a.part ≠ b.part then some (a, b) else if owB a = true ∧ owB b = true then wordsP a b else if owB a = true ∨ owB b = true then some (a, b) else none
def mk0 : Mk := ⟨0, 0, 0, ⟨#[]⟩, ⟨#[]⟩, 0, 0⟩
/-- both in the other order, with the error. -/
def swapF (r : Option (Mk × Mk)) : (Mk × Mk) × Int :=
 match r with
 | none => ((mk0, mk0), 13)
 | some (a, b) => if inR a = true ∧ inR b = true then (if p0B b = true ∨ p0B a = true then ((mk0, mk0), 3) else ((b, a), 0)) else ((mk0, mk0), 2)
def prSV (p : Mk × Mk) : SV := .agg [.v (.int .i64 p.1.mark), .v (.int .i64 p.1.part), .v (.int .i64 p.1.word), .v (.string p.1.old), .v (.string p.1.new), .v (.int .i64 p.1.was), .v (.int .i64 p.1.kind), .v (.int .i64 p.2.mark), .v (.int .i64 p.2.part), .v (.int .i64 p.2.word), .v (.string p.2.old), .v (.string p.2.new), .v (.int .i64 p.2.was), .v (.int .i64 p.2.kind)]
theorem prE : (∀ p, prSV p = .agg [.v (.int .i64 p.1.mark), .v (.int .i64 p.1.part), .v (.int .i64 p.1.word), .v (.string p.1.old), .v (.string p.1.new), .v (.int .i64 p.1.was), .v (.int .i64 p.1.kind), .v (.int .i64 p.2.mark), .v (.int .i64 p.2.part), .v (.int .i64 p.2.word), .v (.string p.2.old), .v (.string p.2.new), .v (.int .i64 p.2.was), .v (.int .i64 p.2.kind)]) ∧ mk0 = ⟨0, 0, 0, ⟨#[]⟩, ⟨#[]⟩, 0, 0⟩ := ⟨fun _ => rfl, rfl⟩
theorem inR_b {m : Mk} (h : inR m = true) : (0 ≤ m.part ∧ m.part ≤ 59) ∧ (0 ≤ m.word ∧ m.word ≤ 100) := by
 simpa [inR] using h
set_option maxHeartbeats 8000000 in
theorem swappedQ_s (a b : Mk) (ha : inR a = true) (hb : inR b = true) (h1 : a.mark ≠ 5) (h2 : a.mark ≠ 6) (h3 : b.mark ≠ 5) (h4 : b.mark ≠ 6) : Ctr Tryz.prog 52 [mV a, mV b] (fun rr => rr = ⟨.tup [prSV (swapF (quietP a b)).1, (.v (.int .i64 ((swapF (quietP a b)).2)))], []⟩) := by
 have encs := And.intro encs prE
 obtain ⟨⟨a1, a2⟩, a3, a4⟩ := inR_b ha
 obtain ⟨⟨b1, b2⟩, b3, b4⟩ := inR_b hb
 have la := lenM_b a
 have lb := lenM_b b
 have ah := ahM_b a
 have bh := ahM_b b
 refine Ctr.of (rs := [.cell 4 52, .tmp 5]) Tok true Tryz.func52 rfl rfl rfl rfl (by simp [ofDL]) (fun w0 kp => ?_)
 simp only [↓sx0, sxE, encs, sevalprocAttr]
 refine CallI.inlG (rs := [.tmp 2]) Tok (fun h => by first | cases h; done | rfl) Tryz.func83 rfl rfl rfl rfl (by simp) (fun ρ σ μ fr lp => ?_) (by refine ⟨_, ?_, rfl⟩; rfl)
 simp only [↓sx0, sxE, encs, sevalprocAttr]
 refine BrW.no h1 ?_
 simp only [↓sx0, sxE, encs, sevalprocAttr]
 refine BrW.no h2 ?_
 simp only [↓sx0, sxE, encs, sevalprocAttr]
 refine BrW.no h3 ?_
 simp only [↓sx0, sxE, encs, sevalprocAttr]
 refine BrW.no h4 ?_
 simp only [↓sx0, sxE, encs, sevalprocAttr]
 refine CallI.inlG (rs := [.tmp 2]) Tok (fun h => by first | cases h; done | rfl) Tryz.func111 rfl rfl rfl rfl (by simp) (fun ρ σ μ fr lp => ?_) (by refine ⟨_, ?_, rfl⟩; rfl)
 simp only [↓sx0, sxE, encs, sevalprocAttr]
 refine DrawW.plan Tok mixed (.q 0 <| .q 1 <| .q 2 <| .q 3 <| .q 4 <| .q 5 <| .q 6 <| .q 7 <| .q 8 <| .q 9 <| .q 10 <| .q 11 <| .done) (by kernel_rfl) (by kernel_rfl) ?_
 simp only [↓sx0, sxE, encs, sevalprocAttr]
 refine BrW.dec (fun hpp => ?_) (fun hpp => ?_)
 ·have hq : quietP a b = some (a, b) := by rw [quietP, if_pos hpp]
  rw [hq]
  simp only [↓sx0, sxE, encs, sevalprocAttr]
  refine CallI.fn (inRange_s (a)) (by simp only [sx3, encs, sxR, sevalprocAttr] <;> (try simp) <;> (try rfl)) ?_
  simp only [↓sx0, sxE, encs, sevalprocAttr]
  refine BrW.of (fun r1 => ?_) (fun r1 => ?_)
  ·simp only [↓sx0, sxE, encs, sevalprocAttr]
   refine CallI.fn (inRange_s (b)) (by simp only [sx3, encs, sxR, sevalprocAttr] <;> (try simp) <;> (try rfl)) ?_
   simp only [↓sx0, sxE, encs, sevalprocAttr]
   refine BrW.of (fun r2 => ?_) (fun r2 => ?_)
   ·simp only [↓sx0, sxE, encs, sevalprocAttr]
    refine CallI.fn (containsM_s true 85 p0B [b, a] (by simp) (fun x _ => swapped1_s x)) (by simp only [sx3, encs, sxR, sevalprocAttr] <;> (try simp) <;> (try rfl)) ?_
    simp only [↓sx0, sxE, encs, sevalprocAttr]
    refine BrW.of (fun r3 => ?_) (fun r3 => ?_)
    ·simp only [↓sx0, sxE, encs, sevalprocAttr]
     have r3 : p0B (b) = true ∨ p0B (a) = true := by simpa using r3
     rw [show swapF (some (a, b)) = ((mk0, mk0), 3) by simp only [swapF]; rw [if_pos ⟨r1, r2⟩, if_pos r3]]
     refine EndW.fn ?_ ?_ <;> simp only [sx4, encs, kpLL_map, sxR, sevalprocAttr] <;> (try simp) <;> (try omega)
    ·simp only [↓sx0, sxE, encs, sevalprocAttr]
     have r3 : ¬ (p0B (b) = true ∨ p0B (a) = true) := by simpa using r3
     rw [show swapF (some (a, b)) = ((b, a), 0) by simp only [swapF]; rw [if_pos ⟨r1, r2⟩, if_neg r3]]
     refine EndW.fn ?_ ?_ <;> simp only [sx4, encs, kpLL_map, sxR, sevalprocAttr] <;> (try simp) <;> (try omega)
   ·simp only [↓sx0, sxE, encs, sevalprocAttr]
    rw [show swapF (some (a, b)) = ((mk0, mk0), 2) by simp only [swapF]; rw [if_neg (by rw [r2]; simp)]]
    refine EndW.fn ?_ ?_ <;> simp only [sx4, encs, kpLL_map, sxR, sevalprocAttr] <;> (try simp) <;> (try omega)
  ·simp only [↓sx0, sxE, encs, sevalprocAttr]
   rw [show swapF (some (a, b)) = ((mk0, mk0), 2) by simp only [swapF]; rw [if_neg (by rw [r1]; simp)]]
   refine EndW.fn ?_ ?_ <;> simp only [sx4, encs, kpLL_map, sxR, sevalprocAttr] <;> (try simp) <;> (try omega)
 ·have hpp : a.part = b.part := Decidable.not_not.1 hpp
  simp only [↓sx0, sxE, encs, sevalprocAttr]
  refine CallI.fn (ofWords_s a) (by simp only [sx3, encs, sxR, sevalprocAttr] <;> (try simp) <;> (try rfl)) ?_
  simp only [↓sx0, sxE, encs, sevalprocAttr]
  have cases : owB a = true → owB b = true → quietP a b = wordsP a b := fun u v => by rw [quietP, if_neg (by simp [hpp]), if_pos ⟨u, v⟩]
  have cases2 : ¬ (owB a = true ∧ owB b = true) → (owB a = true ∨ owB b = true) → quietP a b = some (a, b) := fun u v => by rw [quietP, if_neg (by simp [hpp]), if_neg u, if_pos v]
  have cases3 : ¬ (owB a = true ∨ owB b = true) → quietP a b = none := fun u => by rw [quietP, if_neg (by simp [hpp]), if_neg (fun h => u (.inl h.1)), if_neg u]
  refine BrW.of (fun o1 => ?_) (fun o1 => ?_)
  ·simp only [↓sx0, sxE, encs, sevalprocAttr]
   refine CallI.fn (ofWords_s b) (by simp only [sx3, encs, sxR, sevalprocAttr] <;> (try simp) <;> (try rfl)) ?_
   simp only [↓sx0, sxE, encs, sevalprocAttr]
   refine BrW.of (fun o2 => ?_) (fun o2 => ?_)
   ·simp only [↓sx0, sxE, encs, sevalprocAttr]
    have hc := cases o1 o2
    rw [hc]
    refine CallI.inlG (rs := [.tmp 2]) Tok (fun h => by first | cases h; done | rfl) Tryz.func146 rfl rfl rfl rfl (by simp) (fun ρ σ μ fr lp => ?_) (by refine ⟨_, ?_, rfl⟩; rfl)
    simp only [↓sx0, sxE, encs, sevalprocAttr]
    refine DrawW.plan Tok mixed (.q 0 <| .q 1 <| .q 2 <| .q 3 <| .q 4 <| .q 5 <| .q 6 <| .q 7 <| .e2 8 [1, 3, 5, 7] (.e 9 [1, 3, 5, 7] <| .e 10 [5, 7] <| .e 11 [] <| .done) 9 [1, 3, 5, 7] (.e 8 [1, 3, 5, 7] <| .e 10 [5, 7] <| .e 11 [] <| .done)) (by kernel_rfl) (by kernel_rfl) ?_
    simp only [↓sx0, sxE, encs, sevalprocAttr]
    repeat' (first
     | refine ⟨?_, ?_⟩
     | fail)
    all_goals (
     skip
     refine DrawW.plan Tok mixed (.q 0 <| .q 3 <| .q 4 <| .e 1 [4] <| .q 2 <| .q 5 <| .q 6 <| .done) (by kernel_rfl) (by kernel_rfl) ?_
     simp only [↓sx0, sxE, encs, sevalprocAttr]
     refine CallI.fn (ahead_s b ⟨b3, by omega⟩) (by simp only [sx3, encs, sxR, sevalprocAttr] <;> (try simp) <;> (try rfl)) ?_
     simp only [↓sx0, sxE, encs, sevalprocAttr]
     refine BrW.dec (fun w1 => ?_) (fun w1 => ?_)
     ·rw [show wordsP a b = some ({ a with word := a.word + lenM b }, b) by rw [wordsP, if_pos w1]]
      simp only [↓sx0, sxE, encs, sevalprocAttr]
      refine DrawW.plan Tok mixed (.q 0 <| .q 1 <| .q 2 <| .q 3 <| .q 4 <| .q 5 <| .e 6 [1, 4] <| .q 7 <| .q 8 <| .q 9 <| .e 10 [] <| .done) (by kernel_rfl) (by kernel_rfl) ?_
      simp only [↓sx0, sxE, encs, sevalprocAttr]
      refine CallI.fn (lengthens_s b) (by simp only [sx3, encs, sxR, sevalprocAttr] <;> (try simp) <;> (try rfl)) ?_
      simp only [↓sx0, sxE, encs, sevalprocAttr]
      repeat ((with_reducible refine Vc.go ?_ fun _ => ?_); (focus (first | omega | (simp only [InK]; omega) | (simp [InK] <;> omega))); simp only [↓sx0, sxE, encs, sevalprocAttr])
      refine CallI.fn (inRange_s ({ a with word := a.word + lenM b })) (by simp only [sx3, encs, sxR, sevalprocAttr] <;> (try simp) <;> (try rfl)) ?_
      simp only [↓sx0, sxE, encs, sevalprocAttr]
      refine BrW.of (fun r1 => ?_) (fun r1 => ?_)
      ·simp only [↓sx0, sxE, encs, sevalprocAttr]
       refine CallI.fn (inRange_s (b)) (by simp only [sx3, encs, sxR, sevalprocAttr] <;> (try simp) <;> (try rfl)) ?_
       simp only [↓sx0, sxE, encs, sevalprocAttr]
       refine BrW.of (fun r2 => ?_) (fun r2 => ?_)
       ·simp only [↓sx0, sxE, encs, sevalprocAttr]
        refine CallI.fn (containsM_s true 85 p0B [b, { a with word := a.word + lenM b }] (by simp) (fun x _ => swapped1_s x)) (by simp only [sx3, encs, sxR, sevalprocAttr] <;> (try simp) <;> (try rfl)) ?_
        simp only [↓sx0, sxE, encs, sevalprocAttr]
        refine BrW.of (fun r3 => ?_) (fun r3 => ?_)
        ·simp only [↓sx0, sxE, encs, sevalprocAttr]
         have r3 : p0B (b) = true ∨ p0B ({ a with word := a.word + lenM b }) = true := by simpa using r3
         rw [show swapF (some ({ a with word := a.word + lenM b }, b)) = ((mk0, mk0), 3) by simp only [swapF]; rw [if_pos ⟨r1, r2⟩, if_pos r3]]
         refine EndW.fn ?_ ?_ <;> simp only [sx4, encs, kpLL_map, sxR, sevalprocAttr] <;> (try simp) <;> (try omega)
        ·simp only [↓sx0, sxE, encs, sevalprocAttr]
         have r3 : ¬ (p0B (b) = true ∨ p0B ({ a with word := a.word + lenM b }) = true) := by simpa using r3
         rw [show swapF (some ({ a with word := a.word + lenM b }, b)) = ((b, { a with word := a.word + lenM b }), 0) by simp only [swapF]; rw [if_pos ⟨r1, r2⟩, if_neg r3]]
         refine EndW.fn ?_ ?_ <;> simp only [sx4, encs, kpLL_map, sxR, sevalprocAttr] <;> (try simp) <;> (try omega)
       ·simp only [↓sx0, sxE, encs, sevalprocAttr]
        rw [show swapF (some ({ a with word := a.word + lenM b }, b)) = ((mk0, mk0), 2) by simp only [swapF]; rw [if_neg (by rw [r2]; simp)]]
        refine EndW.fn ?_ ?_ <;> simp only [sx4, encs, kpLL_map, sxR, sevalprocAttr] <;> (try simp) <;> (try omega)
      ·simp only [↓sx0, sxE, encs, sevalprocAttr]
       rw [show swapF (some ({ a with word := a.word + lenM b }, b)) = ((mk0, mk0), 2) by simp only [swapF]; rw [if_neg (by rw [r1]; simp)]]
       refine EndW.fn ?_ ?_ <;> simp only [sx4, encs, kpLL_map, sxR, sevalprocAttr] <;> (try simp) <;> (try omega)
     ·simp only [↓sx0, sxE, encs, sevalprocAttr]
      refine DrawW.plan Tok mixed (.q 0 <| .q 3 <| .e 1 [3] <| .q 2 <| .e 4 [] <| .q 5 <| .q 6 <| .q 7 <| .done) (by kernel_rfl) (by kernel_rfl) ?_
      simp only [↓sx0, sxE, encs, sevalprocAttr]
      refine CallI.fn (ahead_s b ⟨b3, by omega⟩) (by simp only [sx3, encs, sxR, sevalprocAttr] <;> (try simp) <;> (try rfl)) ?_
      simp only [↓sx0, sxE, encs, sevalprocAttr]
      refine CallI.fn (behind_s a ⟨a3, by omega⟩) (by simp only [sx3, encs, sxR, sevalprocAttr] <;> (try simp) <;> (try rfl)) ?_
      simp only [↓sx0, sxE, encs, sevalprocAttr]
      refine BrW.dec (fun w2 => ?_) (fun w2 => ?_)
      ·rw [show wordsP a b = some (a, { b with word := b.word - lenM a }) by rw [wordsP, if_neg w1, if_pos w2]]
       simp only [↓sx0, sxE, encs, sevalprocAttr]
       refine DrawW.plan Tok mixed (.q 0 <| .q 1 <| .q 2 <| .q 3 <| .q 4 <| .q 5 <| .e 6 [1, 4] <| .q 7 <| .q 8 <| .q 9 <| .e 10 [] <| .done) (by kernel_rfl) (by kernel_rfl) ?_
       simp only [↓sx0, sxE, encs, sevalprocAttr]
       refine CallI.fn (lengthens_s a) (by simp only [sx3, encs, sxR, sevalprocAttr] <;> (try simp) <;> (try rfl)) ?_
       simp only [↓sx0, sxE, encs, sevalprocAttr]
       repeat ((with_reducible refine Vc.go ?_ fun _ => ?_); (focus (first | omega | (simp only [InK]; omega) | (simp [InK] <;> omega))); simp only [↓sx0, sxE, encs, sevalprocAttr])
       refine CallI.fn (inRange_s (a)) (by simp only [sx3, encs, sxR, sevalprocAttr] <;> (try simp) <;> (try rfl)) ?_
       simp only [↓sx0, sxE, encs, sevalprocAttr]
       refine BrW.of (fun r1 => ?_) (fun r1 => ?_)
       ·simp only [↓sx0, sxE, encs, sevalprocAttr]
        refine CallI.fn (inRange_s ({ b with word := b.word - lenM a })) (by simp only [sx3, encs, sxR, sevalprocAttr] <;> (try simp) <;> (try rfl)) ?_
        simp only [↓sx0, sxE, encs, sevalprocAttr]
        refine BrW.of (fun r2 => ?_) (fun r2 => ?_)
        ·simp only [↓sx0, sxE, encs, sevalprocAttr]
         refine CallI.fn (containsM_s true 85 p0B [{ b with word := b.word - lenM a }, a] (by simp) (fun x _ => swapped1_s x)) (by simp only [sx3, encs, sxR, sevalprocAttr] <;> (try simp) <;> (try rfl)) ?_
         simp only [↓sx0, sxE, encs, sevalprocAttr]
         refine BrW.of (fun r3 => ?_) (fun r3 => ?_)
         ·simp only [↓sx0, sxE, encs, sevalprocAttr]
          have r3 : p0B ({ b with word := b.word - lenM a }) = true ∨ p0B (a) = true := by simpa using r3
          rw [show swapF (some (a, { b with word := b.word - lenM a })) = ((mk0, mk0), 3) by simp only [swapF]; rw [if_pos ⟨r1, r2⟩, if_pos r3]]
          refine EndW.fn ?_ ?_ <;> simp only [sx4, encs, kpLL_map, sxR, sevalprocAttr] <;> (try simp) <;> (try omega)
         ·simp only [↓sx0, sxE, encs, sevalprocAttr]
          have r3 : ¬ (p0B ({ b with word := b.word - lenM a }) = true ∨ p0B (a) = true) := by simpa using r3
          rw [show swapF (some (a, { b with word := b.word - lenM a })) = (({ b with word := b.word - lenM a }, a), 0) by simp only [swapF]; rw [if_pos ⟨r1, r2⟩, if_neg r3]]
          refine EndW.fn ?_ ?_ <;> simp only [sx4, encs, kpLL_map, sxR, sevalprocAttr] <;> (try simp) <;> (try omega)
        ·simp only [↓sx0, sxE, encs, sevalprocAttr]
         rw [show swapF (some (a, { b with word := b.word - lenM a })) = ((mk0, mk0), 2) by simp only [swapF]; rw [if_neg (by rw [r2]; simp)]]
         refine EndW.fn ?_ ?_ <;> simp only [sx4, encs, kpLL_map, sxR, sevalprocAttr] <;> (try simp) <;> (try omega)
       ·simp only [↓sx0, sxE, encs, sevalprocAttr]
        rw [show swapF (some (a, { b with word := b.word - lenM a })) = ((mk0, mk0), 2) by simp only [swapF]; rw [if_neg (by rw [r1]; simp)]]
        refine EndW.fn ?_ ?_ <;> simp only [sx4, encs, kpLL_map, sxR, sevalprocAttr] <;> (try simp) <;> (try omega)
      ·have hq : wordsP a b = none := by rw [wordsP, if_neg w1, if_neg w2]
       simp only [↓sx0, sxE, encs, sevalprocAttr]
       rw [hq, show swapF none = ((mk0, mk0), 13) from rfl]
       refine EndW.fn ?_ ?_ <;> simp only [sx4, encs, kpLL_map, sxR, sevalprocAttr] <;> (try simp) <;> (try omega) )
   ·simp only [↓sx0, sxE, encs, sevalprocAttr]
    have hq := cases2 (fun h => by rw [o2] at h; simp at h) (.inl o1)
    rw [hq]
    refine CallI.fn (ofWords_s a) (by simp only [sx3, encs, sxR, sevalprocAttr] <;> (try simp) <;> (try rfl)) ?_
    simp only [↓sx0, sxE, encs, sevalprocAttr]
    refine BrW.tt o1 ?_
    simp only [↓sx0, sxE, encs, sevalprocAttr]
    refine CallI.fn (inRange_s (a)) (by simp only [sx3, encs, sxR, sevalprocAttr] <;> (try simp) <;> (try rfl)) ?_
    simp only [↓sx0, sxE, encs, sevalprocAttr]
    refine BrW.of (fun r1 => ?_) (fun r1 => ?_)
    ·simp only [↓sx0, sxE, encs, sevalprocAttr]
     refine CallI.fn (inRange_s (b)) (by simp only [sx3, encs, sxR, sevalprocAttr] <;> (try simp) <;> (try rfl)) ?_
     simp only [↓sx0, sxE, encs, sevalprocAttr]
     refine BrW.of (fun r2 => ?_) (fun r2 => ?_)
     ·simp only [↓sx0, sxE, encs, sevalprocAttr]
      refine CallI.fn (containsM_s true 85 p0B [b, a] (by simp) (fun x _ => swapped1_s x)) (by simp only [sx3, encs, sxR, sevalprocAttr] <;> (try simp) <;> (try rfl)) ?_
      simp only [↓sx0, sxE, encs, sevalprocAttr]
      refine BrW.of (fun r3 => ?_) (fun r3 => ?_)
      ·simp only [↓sx0, sxE, encs, sevalprocAttr]
       have r3 : p0B (b) = true ∨ p0B (a) = true := by simpa using r3
       rw [show swapF (some (a, b)) = ((mk0, mk0), 3) by simp only [swapF]; rw [if_pos ⟨r1, r2⟩, if_pos r3]]
       refine EndW.fn ?_ ?_ <;> simp only [sx4, encs, kpLL_map, sxR, sevalprocAttr] <;> (try simp) <;> (try omega)
      ·simp only [↓sx0, sxE, encs, sevalprocAttr]
       have r3 : ¬ (p0B (b) = true ∨ p0B (a) = true) := by simpa using r3
       rw [show swapF (some (a, b)) = ((b, a), 0) by simp only [swapF]; rw [if_pos ⟨r1, r2⟩, if_neg r3]]
       refine EndW.fn ?_ ?_ <;> simp only [sx4, encs, kpLL_map, sxR, sevalprocAttr] <;> (try simp) <;> (try omega)
     ·simp only [↓sx0, sxE, encs, sevalprocAttr]
      rw [show swapF (some (a, b)) = ((mk0, mk0), 2) by simp only [swapF]; rw [if_neg (by rw [r2]; simp)]]
      refine EndW.fn ?_ ?_ <;> simp only [sx4, encs, kpLL_map, sxR, sevalprocAttr] <;> (try simp) <;> (try omega)
    ·simp only [↓sx0, sxE, encs, sevalprocAttr]
     rw [show swapF (some (a, b)) = ((mk0, mk0), 2) by simp only [swapF]; rw [if_neg (by rw [r1]; simp)]]
     refine EndW.fn ?_ ?_ <;> simp only [sx4, encs, kpLL_map, sxR, sevalprocAttr] <;> (try simp) <;> (try omega)
  ·simp only [↓sx0, sxE, encs, sevalprocAttr]
   refine CallI.fn (ofWords_s a) (by simp only [sx3, encs, sxR, sevalprocAttr] <;> (try simp) <;> (try rfl)) ?_
   simp only [↓sx0, sxE, encs, sevalprocAttr]
   refine BrW.ff o1 ?_
   simp only [↓sx0, sxE, encs, sevalprocAttr]
   refine CallI.fn (ofWords_s b) (by simp only [sx3, encs, sxR, sevalprocAttr] <;> (try simp) <;> (try rfl)) ?_
   simp only [↓sx0, sxE, encs, sevalprocAttr]
   refine BrW.of (fun o2 => ?_) (fun o2 => ?_)
   ·have hq := cases2 (fun h => by rw [o1] at h; simp at h) (.inr o2)
    rw [hq]
    simp only [↓sx0, sxE, encs, sevalprocAttr]
    refine CallI.fn (inRange_s (a)) (by simp only [sx3, encs, sxR, sevalprocAttr] <;> (try simp) <;> (try rfl)) ?_
    simp only [↓sx0, sxE, encs, sevalprocAttr]
    refine BrW.of (fun r1 => ?_) (fun r1 => ?_)
    ·simp only [↓sx0, sxE, encs, sevalprocAttr]
     refine CallI.fn (inRange_s (b)) (by simp only [sx3, encs, sxR, sevalprocAttr] <;> (try simp) <;> (try rfl)) ?_
     simp only [↓sx0, sxE, encs, sevalprocAttr]
     refine BrW.of (fun r2 => ?_) (fun r2 => ?_)
     ·simp only [↓sx0, sxE, encs, sevalprocAttr]
      refine CallI.fn (containsM_s true 85 p0B [b, a] (by simp) (fun x _ => swapped1_s x)) (by simp only [sx3, encs, sxR, sevalprocAttr] <;> (try simp) <;> (try rfl)) ?_
      simp only [↓sx0, sxE, encs, sevalprocAttr]
      refine BrW.of (fun r3 => ?_) (fun r3 => ?_)
      ·simp only [↓sx0, sxE, encs, sevalprocAttr]
       have r3 : p0B (b) = true ∨ p0B (a) = true := by simpa using r3
       rw [show swapF (some (a, b)) = ((mk0, mk0), 3) by simp only [swapF]; rw [if_pos ⟨r1, r2⟩, if_pos r3]]
       refine EndW.fn ?_ ?_ <;> simp only [sx4, encs, kpLL_map, sxR, sevalprocAttr] <;> (try simp) <;> (try omega)
      ·simp only [↓sx0, sxE, encs, sevalprocAttr]
       have r3 : ¬ (p0B (b) = true ∨ p0B (a) = true) := by simpa using r3
       rw [show swapF (some (a, b)) = ((b, a), 0) by simp only [swapF]; rw [if_pos ⟨r1, r2⟩, if_neg r3]]
       refine EndW.fn ?_ ?_ <;> simp only [sx4, encs, kpLL_map, sxR, sevalprocAttr] <;> (try simp) <;> (try omega)
     ·simp only [↓sx0, sxE, encs, sevalprocAttr]
      rw [show swapF (some (a, b)) = ((mk0, mk0), 2) by simp only [swapF]; rw [if_neg (by rw [r2]; simp)]]
      refine EndW.fn ?_ ?_ <;> simp only [sx4, encs, kpLL_map, sxR, sevalprocAttr] <;> (try simp) <;> (try omega)
    ·simp only [↓sx0, sxE, encs, sevalprocAttr]
     rw [show swapF (some (a, b)) = ((mk0, mk0), 2) by simp only [swapF]; rw [if_neg (by rw [r1]; simp)]]
     refine EndW.fn ?_ ?_ <;> simp only [sx4, encs, kpLL_map, sxR, sevalprocAttr] <;> (try simp) <;> (try omega)
   ·have hq := cases3 (fun h => by rw [o1, o2] at h; simp at h)
    simp only [↓sx0, sxE, encs, sevalprocAttr]
    rw [hq, show swapF none = ((mk0, mk0), 13) from rfl]
    refine EndW.fn ?_ ?_ <;> simp only [sx4, encs, kpLL_map, sxR, sevalprocAttr] <;> (try simp) <;> (try omega)
end Go.Proofs.YtmbemlmkfoblhaaGreatDoor
/-
 Chapter 8, walks: two marks in the other order, the first one breaks.
-/
namespace Go.Proofs.YtmbemlmkfoblhaaGreatDoor
open Go Go.Vx
set_option maxRecDepth 20000
def befP (a b : Mk) : Option (Mk × Mk) :=
 if b.mark = 6 then (if b.part = a.part - 1 then none else some ({ a with part := a.part + shM b }, b)) else some ({ a with part := a.part + shM b }, b)
def brokenP (a b : Mk) : Option (Mk × Mk) :=
 if b.part < a.part then befP a b else if a.part + 1 < b.part then some (a, { b with part := b.part - 1 }) else if ptsB b = true then none
 else if b.part = a.part then (if owB b = true then some ({ a with word := a.word + lenM b }, b) else some (a, b)) else if owB b = true then some (a, { b with part := b.part - 1, word := b.word + a.word }) else none
def joinedP (a b : Mk) : Option (Mk × Mk) :=
 if b.part < a.part then befP a b else if a.part < b.part then some (a, { b with part := b.part + 1 }) else if ptsB b = true then none
 else if owB b = true then (if b.word + ahM b ≤ a.word then some ({ a with word := a.word + lenM b }, b) else if a.word ≤ b.word then some (a, { b with part := b.part + 1, word := b.word - a.word }) else none) else some (a, b)
def breaksP (a b : Mk) : Option (Mk × Mk) :=
 if a.part < b.part then some (a, b) else if b.part < a.part then some ({ a with part := a.part + 1 }, b)
 else if owB a = true then (if b.word ≤ a.word then some ({ a with part := a.part + 1, word := a.word - b.word }, b) else if a.word + ahM a + lenM a ≤ b.word then some (a, { b with word := b.word - lenM a }) else none) else some (a, b)
def joinsP (a b : Mk) : Option (Mk × Mk) :=
 if a.part < b.part then some (a, b) else if b.part + 1 < a.part then some ({ a with part := a.part - 1 }, b)
 else if a.part = b.part then (if owB a = true then some (a, { b with word := b.word - lenM a }) else some (a, b)) else if owB a = true then some ({ a with part := a.part - 1, word := a.word + b.word }, b) else none
end Go.Proofs.YtmbemlmkfoblhaaGreatDoor
