/-
  Chapter 8, walks: marks without one of them.
-/
import Derived.Test.YtenohgpackcjbaaVW28
namespace Go.Proofs.Ytenohgpackcjbaa
open Go Go.Vx
set_option linter.unusedSimpArgs false
set_option linter.unusedVariables false
set_option maxRecDepth 20000
theorem cloneM_s (b : Bool) (els : List (List D)) (hk : kpLL els) (hl : els.length ≤ 1000000) : Ctr Try.prog 71 [.sl b 7 els] (fun rr => rr = ⟨.row 0, [.own 24 7 els]⟩) := by
  refine Ctr.of (rs := [.tmp 2]) Tok false Try.func71 rfl rfl rfl rfl (by simp [ofDL]) (fun w0 kp => ?_)
  simp only [↓sx0, sx1, encs, tys, sxR, sevalprocAttr]
  intro z hz
  refine BrW.of (fun h => ?_) (fun h => ?_)
  · simp only [↓sx0, sx1, encs, tys, sxR, sevalprocAttr]
    rw [hz h]
    exact EndW.r [none] (by simp) (by simp only [sx4, sxF, encs, kpLL_map, sxR, sevalprocAttr] <;> simp) (by simp only [sx4, sxF, encs, kpLL_map, sxR, sevalprocAttr] <;> simp) (by simp only [sx4, sxF, encs, kpLL_map, sxR, sevalprocAttr] <;> simp) (by simp only [sx4, sxF, encs, kpLL_map, sxR, sevalprocAttr] <;> simp)
  · simp only [↓sx0, sx1, encs, tys, sxR, sevalprocAttr]
    (with_reducible refine Vc.go ?_ fun _ => ?_); focus (first | omega | (simp only [InK]; omega) | (simp [InK]; done) | (simp [InK]; omega))
    simp only [↓sx0, sx1, encs, tys, sxR, sevalprocAttr]
    exact EndW.r [some 1] (by simp) (by simp only [sx4, sxF, encs, kpLL_map, sxR, sevalprocAttr] <;> simp [hk]) (by simp only [sx4, sxF, encs, kpLL_map, sxR, sevalprocAttr] <;> simp [hk]) (by simp only [sx4, sxF, encs, kpLL_map, sxR, sevalprocAttr] <;> simp [hk]) (by simp only [sx4, sxF, encs, kpLL_map, sxR, sevalprocAttr] <;> simp [hk])
theorem kpM (l : List Mk) : kpLL (l.map eM) := by simp [kpLL_map, eM, kpL, kpD]
def mC (m : Mk) : List SV := [.v (.int .i64 m.mark), .v (.int .i64 m.part), .v (.int .i64 m.word), .v (.string m.old), .v (.string m.new), .v (.int .i64 m.was), .v (.int .i64 m.kind)]
/-- marks behind one that goes, with it. -/
def stF : Mk → List Mk → Nat → List Mk → List Mk × Int × Int
  | _, [], _, out => (out, 0, 0)
  | m, x :: r, i, out => if (swapF (orderP m x)).2 = 0 then stF (swapF (orderP m x)).1.2 r (i + 1) (out ++ [(swapF (orderP m x)).1.1]) else ([], (i : Int), (swapF (orderP m x)).2)
structure SS where
  i : Nat
  m : Mk
  out : List Mk
theorem swap_ok {a b : Mk} (ha : mkErr a = 0) (hb : mkErr b = 0) (h : (swapF (orderP a b)).2 = 0) : mkErr (swapF (orderP a b)).1.1 = 0 ∧ mkErr (swapF (orderP a b)).1.2 = 0 := by
  rcases ho : orderP a b with _ | ⟨x, y⟩
  · rw [ho] at h; simp [swapF] at h
  · obtain ⟨⟨k1, k2, k3, k4, k5, k6⟩, j1, j2, j3, j4, j5, j6⟩ := order_keep ho
    obtain ⟨a1, a2, a3, a4⟩ := mk_ok ha
    obtain ⟨b1, b2, b3, b4⟩ := mk_ok hb
    rw [ho] at h
    simp only [swapF] at h ⊢
    split at h
    · rename_i hr
      rw [if_pos hr]
      split at h
      · simp at h
      · rename_i hp
        rw [if_neg hp]
        simp only
        have z7 : ∀ {u v : Mk}, bdE u = 0 → u.mark = v.mark → (u.mark = 7 → v.word = u.word) → v.mark = 7 → v.word = 0 := fun hu hm hw h7 => by
          rw [hw (by omega)]
          unfold bdE at hu
          split at hu
          · omega
          · rename_i hn; exact Decidable.byContradiction fun hc => hn (.inr ⟨by omega, hc⟩)
        constructor
        · refine mkErr_of (by omega) hr.2 (by rw [j1, j2, j3, j4, j5]; exact b3) ?_
          rw [bd_keep (z7 b4 j1.symm j6), if_neg (fun h => hp (.inl h))]
        · refine mkErr_of (by omega) hr.1 (by rw [k1, k2, k3, k4, k5]; exact a3) ?_
          rw [bd_keep (z7 a4 k1.symm k6), if_neg (fun h => hp (.inr h))]
    · simp at h
def stV (l : List Mk) (n : Int) : List Mk × Int × Int :=
  if lstErr l = 0 then (if 0 ≤ n ∧ n ≤ (l.length : Int) - 1 then stF (l.getD n.toNat mk0) (l.drop (n.toNat + 1)) (n.toNat + 1) (l.take n.toNat) else ([], 0, 6)) else ([], 0, lstErr l)
theorem lstE_all : ∀ {l : List Mk}, lstE l = 0 → ∀ m ∈ l, mkErr m = 0
  | [], _, m, h => by cases h
  | x :: l, he, m, h => by
    unfold lstE at he
    split at he
    · rename_i hx
      rcases List.mem_cons.1 h with rfl | h
      · exact hx
      · exact lstE_all he m h
    · rename_i hx; exact absurd he hx
theorem lst_all {l : List Mk} (h : lstErr l = 0) : l.length ≤ 60 ∧ ∀ m ∈ l, mkErr m = 0 := by
  unfold lstErr at h
  split at h
  · omega
  · exact ⟨by omega, lstE_all h⟩
theorem stF_len : ∀ (r : List Mk) (m : Mk) (i : Nat) (out : List Mk), (stF m r i out).1.length ≤ out.length + r.length
  | [], m, i, out => by simp [stF]
  | x :: r, m, i, out => by
    unfold stF
    split
    · have := stF_len r (swapF (orderP m x)).1.2 (i + 1) (out ++ [(swapF (orderP m x)).1.1])
      simp only [List.length_append, List.length_cons, List.length_nil] at this ⊢
      omega
    · simp
theorem stV_len (l : List Mk) (n : Int) : (stV l n).1.length ≤ l.length + l.length := by
  unfold stV
  split
  · split
    · have := stF_len (l.drop (n.toNat + 1)) (l.getD n.toNat mk0) (n.toNat + 1) (l.take n.toNat)
      simp only [List.length_take, List.length_drop] at this
      omega
    · simp
  · simp
set_option maxHeartbeats 16000000 in
theorem stet_s (l : List Mk) (n : Int) (hz : AllMk l) (hl : l.length ≤ 1000000) : Ctr Try.prog 31 [.sl true 7 (l.map eM), (.v (.int .i64 n))] (fun rr => rr = ⟨.tup [.sl true 7 ((stV l n).1.map eM), (.v (.int .i64 ((stV l n).2.1))), (.v (.int .i64 ((stV l n).2.2)))], []⟩) := by
  have encs := And.intro encs (And.intro (show ∀ p, eML p = [.sl p.1 7 (p.2.map eM)] from fun _ => rfl) (And.intro (show ∀ m, mC m = [.v (.int .i64 m.mark), .v (.int .i64 m.part), .v (.int .i64 m.word), .v (.string m.old), .v (.string m.new), .v (.int .i64 m.was), .v (.int .i64 m.kind)] from fun _ => rfl) prE))
  have hL : lstsErr [(true, l)] = lstErr l := by simp only [lstsErr]; split <;> simp_all
  have hC := checkMarks_s false [(true, l)] (by simpa using ⟨hz, by omega⟩) (by simp)
  rw [hL] at hC
  refine Ctr.of (rs := [.tmp 4, .tmp 5, .tmp 6]) Tok true Try.func31 rfl rfl rfl rfl (by simp [ofDL]) (fun w0 kp => ?_)
  simp only [↓sx0, sx1, encs, tys, sxR, sevalprocAttr]
  refine CallI.fn (hC) (by simp only [sx3, encs, sxR, sevalprocAttr] <;> (try simp) <;> (try rfl)) ?_
  simp only [↓sx0, sx1, encs, tys, sxR, sevalprocAttr]
  refine BrW.dec (fun he => ?_) (fun he => ?_)
  · rw [show stV l n = ([], 0, lstErr l) by rw [stV, if_neg he]]
    simp only [↓sx0, sx1, encs, tys, sxR, sevalprocAttr]
    exact EndW.fn (by simp only [sx4, encs, kpLL_map, sxR, sevalprocAttr] <;> (try simp) <;> (try omega)) (by simp only [sx4, encs, kpLL_map, sxR, sevalprocAttr] <;> (try simp) <;> (try omega))
  · have he := Decidable.not_not.1 he
    obtain ⟨h60, hok⟩ := lst_all he
    simp only [↓sx0, sx1, encs, tys, sxR, sevalprocAttr]
    repeat ((with_reducible refine Vc.go ?_ fun _ => ?_); (focus (first | omega | (simp only [InK]; omega) | (simp [InK]; done) | (simp [InK]; omega))); simp only [↓sx0, sx1, encs, tys, sxR, sevalprocAttr])
    refine CallI.fn (within_s n 0 ((l.length : Int) - 1)) (by simp only [sx3, encs, sxR, sevalprocAttr] <;> (try simp) <;> (try rfl)) ?_
    simp only [↓sx0, sx1, encs, tys, sxR, sevalprocAttr]
    refine BrW.of (fun hw => ?_) (fun hw => ?_)
    · have hw : 0 ≤ n ∧ n ≤ (l.length : Int) - 1 := by simpa using hw
      rw [show stV l n = stF (l.getD n.toNat mk0) (l.drop (n.toNat + 1)) (n.toNat + 1) (l.take n.toNat) by rw [stV, if_pos he, if_pos hw]]
      obtain ⟨k, rfl⟩ : ∃ k : Nat, n = k := ⟨n.toNat, by omega⟩
      have hkl : k < l.length := by omega
      have hgd : l.getD k mk0 = l[k] := by simp [List.getD_eq_getElem?_getD, hkl]
      rw [Int.toNat_natCast, hgd]
      simp only [↓sx0, sx1, encs, tys, sxR, sevalprocAttr]
      refine DrawW.plan Tok mixed (.q 0 <| .q 1 <| .q 2 <| .q 4 <| .q 5 <| .q 6 <| .q 7 <| .e2 3 [7] (.e 8 [7] <| .q 9 <| .e 10 [] <| .done) 8 [7] (.e 3 [7] <| .q 9 <| .e 10 [] <| .done)) (by kernel_rfl) (by kernel_rfl) ?_
      simp only [↓sx0, sx1, encs, tys, sxR, sevalprocAttr]
      repeat ((with_reducible refine Vc.go ?_ fun _ => ?_); (focus (first | omega | (simp only [InK]; omega) | (simp [InK]; done) | (simp [InK]; omega))); simp only [↓sx0, sx1, encs, tys, sxR, sevalprocAttr])
      refine IxW.nat hkl ?_
      simp only [↓sx0, sx1, encs, tys, sxR, sevalprocAttr]
      have hkp : kpLL ((l.take k).map eM) := kpM _
      refine And.intro ?_ ?_
      all_goals (
        skip
        refine CallI.ctr (cloneM_s true ((l.take k).map eM) hkp (by simp; omega)) (by simp only [sx3, encs, sxR, sevalprocAttr] <;> (try simp) <;> (try rfl)) ?_
        rintro _ rfl
        simp only [↓sx0, sx1, encs, tys, sxR, sevalprocAttr]
        repeat ((with_reducible refine Vc.go ?_ fun _ => ?_); (focus (first | omega | (simp only [InK]; omega) | (simp [InK]; done) | (simp [InK]; omega))); simp only [↓sx0, sx1, encs, tys, sxR, sevalprocAttr])
        have hkt : (l.take k).length = k := by simp; omega
        refine LoopW.comp [0, 8, 9, 10] (by simp only [sx2, encs, sxR, sevalprocAttr] <;> (try simp) <;> (try omega)) ?_
        simp only [sx2, sxR, sevalprocAttr]
        refine LoopW.up Tok (fun s : SS => [(8, .row 0), (10, (.v (.int .i64 s.i)))]) (fun s => [(0, mC s.m)]) (fun s => [(0, s.out.map eM)]) (fun s => []) (fun s => (k < s.i ∧ s.i ≤ l.length ∧ s.out.length ≤ s.i) ∧ mkErr s.m = 0 ∧ stF s.m (l.drop s.i) s.i s.out = stF l[k] (l.drop (k + 1)) (k + 1) (l.take k)) (fun s => l.length - s.i) (⟨k + 1, l[k], l.take k⟩) (by simp only [sx2, encs, sxR, sevalprocAttr] <;> (try simp) <;> (try omega)) ?_ ?_
        · exact ⟨⟨by simp, by simp; omega, by simp; omega⟩, hok _ (List.getElem_mem hkl), rfl⟩
        rintro ⟨i, m, out⟩ ⟨⟨h1, h2, h3⟩, hm, hS⟩
        simp only at h1 h2 h3 hm hS
        simp only [↓sx0, sx1, encs, tys, sxR, sevalprocAttr]
        refine BrW.dec (fun hlt => ?_) (fun hlt => ?_)
        · simp only [↓sx0, sx1, encs, tys, sxR, sevalprocAttr]
          have hil : i < l.length := by omega
          have hx : mkErr l[i] = 0 := hok _ (List.getElem_mem hil)
          have hd : l.drop i = l[i] :: l.drop (i + 1) := List.drop_eq_getElem_cons hil
          refine DrawW.plan Tok mixed (.q 0 <| .q 1 <| .q 2 <| .q 3 <| .q 4 <| .e2 5 [] (.q 6 <| .q 7 <| .q 8 <| .e 9 [0, 4] <| .e 10 [] <| .q 11 <| .done) 9 [0, 4] (.e 5 [] <| .q 6 <| .q 7 <| .q 8 <| .e 10 [] <| .q 11 <| .done)) (by kernel_rfl) (by kernel_rfl) ?_
          simp only [↓sx0, sx1, encs, tys, sxR, sevalprocAttr]
          refine IxW.nat hil ?_
          generalize l[i] = x at hx hd ⊢
          rw [hd, stF] at hS
          have hC := swapped_s m x (mk_ok hm).2.1 (mk_ok hx).2.1
          have hsw := swap_ok hm hx
          generalize swapF (orderP m x) = w at hS hC hsw ⊢
          obtain ⟨⟨u, v⟩, e⟩ := w
          simp only at hS hC hsw
          simp only [↓sx0, sx1, encs, tys, sxR, sevalprocAttr]
          refine And.intro ?_ ?_
          all_goals (
            skip
            refine CallI.fn (hC) (by simp only [sx3, encs, sxR, sevalprocAttr] <;> (try simp) <;> (try rfl)) ?_
            simp only [↓sx0, sx1, encs, tys, sxR, sevalprocAttr]
            refine BrW.dec (fun hw => ?_) (fun hw => ?_)
            · rw [if_neg hw] at hS
              rw [← hS]
              simp only [↓sx0, sx1, encs, tys, sxR, sevalprocAttr]
              exact EndW.fn (by simp only [sx4, encs, kpLL_map, sxR, sevalprocAttr] <;> (try simp) <;> (try omega)) (by simp only [sx4, encs, kpLL_map, sxR, sevalprocAttr] <;> (try simp) <;> (try omega))
            · have hw := Decidable.not_not.1 hw
              rw [if_pos hw] at hS
              simp only [↓sx0, sx1, encs, tys, sxR, sevalprocAttr]
              refine DrawW.plan Tok mixed (.q 0 <| .q 1 <| .q 2 <| .q 5 <| .q 6 <| .e 3 [6] <| .e 4 [6] <| .q 7 <| .e 8 [] <| .done) (by kernel_rfl) (by kernel_rfl) ?_
              simp only [↓sx0, sx1, encs, tys, sxR, sevalprocAttr]
              repeat ((with_reducible refine Vc.go ?_ fun _ => ?_); (focus (first | trivial | omega | (simp only [InK]; omega) | (simp [InK]; done) | (simp [InK]; omega))); simp only [↓sx0, sx1, encs, tys, sxR, sevalprocAttr])
              refine ⟨⟨i + 1, v, out ++ [u]⟩, StLe.auto (by simp only [sx2, encs, sxR, sevalprocAttr] <;> (try simp [eM, encs]) <;> (try omega)), ?_, ?_⟩
              · exact ⟨⟨by simp only; omega, by simp only; omega, by simp; omega⟩, (hsw hw).2, hS⟩
              · simp only; omega )
        · simp only [↓sx0, sx1, encs, tys, sxR, sevalprocAttr]
          have hie : i = l.length := by omega
          subst hie
          rw [List.drop_length, stF] at hS
          rw [← hS]
          exact EndW.fn (by simp only [sx4, encs, kpLL_map, sxR, sevalprocAttr] <;> (try simp) <;> (try omega)) (by simp only [sx4, encs, kpLL_map, sxR, sevalprocAttr] <;> (try simp) <;> (try omega)) )
    · have hw : ¬ (0 ≤ n ∧ n ≤ (l.length : Int) - 1) := by simpa using hw
      rw [show stV l n = ([], 0, 6) by rw [stV, if_pos he, if_neg hw]]
      simp only [↓sx0, sx1, encs, tys, sxR, sevalprocAttr]
      exact EndW.fn (by simp only [sx4, encs, kpLL_map, sxR, sevalprocAttr] <;> (try simp) <;> (try omega)) (by simp only [sx4, encs, kpLL_map, sxR, sevalprocAttr] <;> (try simp) <;> (try omega))
end Go.Proofs.Ytenohgpackcjbaa
