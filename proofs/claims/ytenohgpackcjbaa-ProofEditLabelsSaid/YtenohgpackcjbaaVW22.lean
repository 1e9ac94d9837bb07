/-
  Chapter 8, walks: edits are checked.
-/
import Derived.Test.YtenohgpackcjbaaVW20
namespace Go.Proofs.Ytenohgpackcjbaa
open Go Go.Vx
set_option linter.unusedSimpArgs false
set_option linter.unusedVariables false
set_option maxRecDepth 20000
def nxOk (n : Int) (i m : Nat) : Bool := decide (n = -1) || (decide (n = i) && decide (i < m))
def nxI (n : Int) (i : Nat) : Nat := if n = -1 then i else i + 1
def edC (a b : List ByteArray) (x : Ed) (i k : Nat) : Nat := if x.fr = -1 ∨ x.to = -1 ∨ a[i]? ≠ b[k]? then 1 else 0
/-- the cost of edits, and the error, from a place on. -/
def edF (a b : List ByteArray) : List Ed → Nat → Nat → Nat → Int × Int
  | [], i, k, c => if i = a.length ∧ k = b.length then ((c : Int), 0) else (0, 14)
  | x :: l, i, k, c => if x.fr = -1 ∧ x.to = -1 then (0, 3) else if nxOk x.fr i a.length = true ∧ nxOk x.to k b.length = true then edF a b l (nxI x.fr i) (nxI x.to k) (c + edC a b x i k) else (0, 9)
structure ESt where
  n : Nat
  i : Nat
  k : Nat
  c : Nat
def edV (a b : List ByteArray) (l : List Ed) : Int × Int := if wdsErr a b = 0 then edF a b l 0 0 0 else (0, wdsErr a b)
set_option maxHeartbeats 16000000 in
theorem checkEdits_s (b1 b2 b3 : Bool) (a b : List ByteArray) (l : List Ed) (ha : AllSz a) (hb : AllSz b) (hl : l.length ≤ 1000000) : Ctr Try.prog 38 [.sl b1 1 (a.map eS), .sl b2 1 (b.map eS), .sl b3 2 (l.map eE)] (fun rr => rr = ⟨.tup [(.v (.int .i64 ((edV a b l).1))), (.v (.int .i64 ((edV a b l).2)))], []⟩) := by
  have hcw := checkWords_s b1 b2 a b ha hb
  refine Ctr.of (rs := [.tmp 6, .tmp 7]) Tok true Try.func38 rfl rfl rfl rfl (by simp [ofDL]) (fun w0 kp => ?_)
  simp only [↓sx0, sx1, encs, tys, sxR, sevalprocAttr]
  refine CallI.fn (hcw) (by simp only [sx3, encs, sxR, sevalprocAttr] <;> (try simp) <;> (try rfl)) ?_
  simp only [↓sx0, sx1, encs, tys, sxR, sevalprocAttr]
  refine BrW.dec (fun he => ?_) (fun he => ?_)
  · rw [show edV a b l = (0, wdsErr a b) by rw [edV, if_neg he]]
    simp only [↓sx0, sx1, encs, tys, sxR, sevalprocAttr]
    exact EndW.fn (by simp only [sx4, encs, kpLL_map, sxR, sevalprocAttr] <;> (try simp) <;> (try omega)) (by simp only [sx4, encs, kpLL_map, sxR, sevalprocAttr] <;> (try simp) <;> (try omega))
  · have he : wdsErr a b = 0 := Decidable.not_not.1 he
    have hlen : a.length ≤ 40 ∧ b.length ≤ 40 := by
      unfold wdsErr at he
      split at he
      · assumption
      · omega
    rw [show edV a b l = edF a b l 0 0 0 by rw [edV, if_pos he]]
    simp only [↓sx0, sx1, encs, tys, sxR, sevalprocAttr]
    skip
    refine LoopW.comp [0, 1, 9, 10, 11, 20, 21, 22] (by simp only [sx2, encs, sxR, sevalprocAttr] <;> (try simp) <;> (try omega)) ?_
    simp only [sx2, sxR, sevalprocAttr]
    refine LoopW.up Tok (fun s : ESt => [(11, (.v (.int .i64 s.c))), (22, (.v (.int .i64 s.n)))]) (fun s => [(0, [(.v (.int .i64 s.i))]), (1, [(.v (.int .i64 s.k))])]) (fun s => []) (fun s => []) (fun s => (s.n ≤ l.length ∧ s.i ≤ a.length ∧ s.k ≤ b.length ∧ s.c ≤ s.n) ∧ edF a b (l.drop s.n) s.i s.k s.c = edF a b l 0 0 0) (fun s => l.length - s.n) (⟨0, 0, 0, 0⟩) (by simp only [sx2, encs, sxR, sevalprocAttr] <;> (try simp) <;> (try omega)) ?_ ?_
    · exact ⟨⟨by simp, by simp, by simp, by simp⟩, rfl⟩
    rintro ⟨n, i, k, c⟩ ⟨⟨hn, hi, hk, hc⟩, hE⟩
    simp only at hn hi hk hc hE
    simp only [↓sx0, sx1, encs, tys, sxR, sevalprocAttr]
    refine BrW.dec (fun hlt => ?_) (fun hlt => ?_)
    · simp only [↓sx0, sx1, encs, tys, sxR, sevalprocAttr]
      have hn2 : n < l.length := by omega
      have hd : l.drop n = l[n] :: l.drop (n + 1) := List.drop_eq_getElem_cons hn2
      refine IxW.nat hn2 ?_
      simp only [↓sx0, sx1, encs, tys, sxR, sevalprocAttr]
      generalize l[n] = x at hd ⊢
      have hcb : c ≤ 1000000 := by omega
      rw [hd, edF] at hE
      refine BrW.dec (fun q1 => ?_) (fun q1 => ?_)
      · simp only [↓sx0, sx1, encs, tys, sxR, sevalprocAttr]
        refine BrW.dec (fun q2 => ?_) (fun q2 => ?_)
        · simp only [↓sx0, sx1, encs, tys, sxR, sevalprocAttr]
          rw [if_pos ⟨q1, q2⟩] at hE
          rw [← hE]
          exact EndW.fn (by simp only [sx4, encs, kpLL_map, sxR, sevalprocAttr] <;> (try simp) <;> (try omega)) (by simp only [sx4, encs, kpLL_map, sxR, sevalprocAttr] <;> (try simp) <;> (try omega))
        · simp only [↓sx0, sx1, encs, tys, sxR, sevalprocAttr]
          repeat ((with_reducible refine BrW.no (by omega) ?_); simp only [↓sx0, sx1, encs, tys, sxR, sevalprocAttr])
          refine CallI.inl (rs := [.tmp 6]) Tok Try.func77 rfl rfl rfl rfl (by simp) (fun ρ σ μ fr lp => ?_)
          simp only [↓sx0, sx1, encs, tys, sxR, sevalprocAttr]
          repeat ((with_reducible refine BrW.yes (by omega) ?_); simp only [↓sx0, sx1, encs, tys, sxR, sevalprocAttr])
          refine CallI.inl (rs := [.tmp 6]) Tok Try.func77 rfl rfl rfl rfl (by simp) (fun ρ σ μ fr lp => ?_)
          simp only [↓sx0, sx1, encs, tys, sxR, sevalprocAttr]
          repeat ((with_reducible refine BrW.no (by omega) ?_); simp only [↓sx0, sx1, encs, tys, sxR, sevalprocAttr])
          refine BrW.dec (fun g2 => ?_) (fun g2 => ?_)
          · simp only [↓sx0, sx1, encs, tys, sxR, sevalprocAttr]
            repeat ((with_reducible refine BrW.yes (by omega) ?_); simp only [↓sx0, sx1, encs, tys, sxR, sevalprocAttr])
            rw [if_neg (by omega), if_neg (by simp only [nxOk, Bool.or_eq_true, Bool.and_eq_true, decide_eq_true_eq]; omega)] at hE
            rw [← hE]
            exact EndW.fn (by simp only [sx4, encs, kpLL_map, sxR, sevalprocAttr] <;> (try simp) <;> (try omega)) (by simp only [sx4, encs, kpLL_map, sxR, sevalprocAttr] <;> (try simp) <;> (try omega))
          · simp only [↓sx0, sx1, encs, tys, sxR, sevalprocAttr]
            repeat ((with_reducible refine BrW.no (by omega) ?_); simp only [↓sx0, sx1, encs, tys, sxR, sevalprocAttr])
            refine BrW.dec (fun g3 => ?_) (fun g3 => ?_)
            · simp only [↓sx0, sx1, encs, tys, sxR, sevalprocAttr]
              rw [if_neg (by omega), if_neg (by simp only [nxOk, Bool.or_eq_true, Bool.and_eq_true, decide_eq_true_eq]; omega)] at hE
              rw [← hE]
              exact EndW.fn (by simp only [sx4, encs, kpLL_map, sxR, sevalprocAttr] <;> (try simp) <;> (try omega)) (by simp only [sx4, encs, kpLL_map, sxR, sevalprocAttr] <;> (try simp) <;> (try omega))
            · simp only [↓sx0, sx1, encs, tys, sxR, sevalprocAttr]
              repeat ((with_reducible refine Vc.go ?_ fun _ => ?_); (focus (first | omega | (simp only [InK]; omega) | (simp [InK]; done) | (simp [InK]; omega))); simp only [↓sx0, sx1, encs, tys, sxR, sevalprocAttr])
              refine DrawW.plan Tok mixed (.q 0 <| .q 1 <| .q 2 <| .q 3 <| .q 4 <| .q 5 <| .q 6 <| .q 7 <| .q 8 <| .q 9 <| .q 10 <| .q 11 <| .q 12 <| .q 13 <| .q 14 <| .q 15 <| .q 16 <| .q 17 <| .q 18 <| .q 19 <| .q 20 <| .done) (by kernel_rfl) (by kernel_rfl) ?_
              simp only [↓sx0, sx1, encs, tys, sxR, sevalprocAttr]
              repeat ((with_reducible refine BrW.yes (by omega) ?_); simp only [↓sx0, sx1, encs, tys, sxR, sevalprocAttr])
              repeat ((with_reducible refine Vc.go ?_ fun _ => ?_); (focus (first | omega | (simp only [InK]; omega) | (simp [InK]; done) | (simp [InK]; omega))); simp only [↓sx0, sx1, encs, tys, sxR, sevalprocAttr])
              rw [if_neg (by omega), if_pos (by simp only [nxOk, Bool.or_eq_true, Bool.and_eq_true, decide_eq_true_eq]; omega)] at hE
              rw [show nxI x.fr i = i by rw [nxI, if_pos (by omega)]] at hE
              rw [show nxI x.to k = k + 1 by rw [nxI, if_neg (by omega)]] at hE
              rw [show edC a b x i k = 1 by rw [edC, if_pos (by first | omega | (simp only [hab]; simp [hne]))]] at hE
              repeat ((with_reducible refine Vc.go ?_ fun _ => ?_); (focus (first | omega | (simp only [InK]; omega) | (simp [InK]; done) | (simp [InK]; omega))); simp only [↓sx0, sx1, encs, tys, sxR, sevalprocAttr])
              refine ⟨⟨n + 1, i, k + 1, c + 1⟩, StLe.auto (by simp only [sx2, encs, sxR, sevalprocAttr] <;> (try simp) <;> (try omega)), ?_, ?_⟩
              · exact ⟨⟨by simp only; omega, by simp only; omega, by simp only; omega, by simp only; omega⟩, hE⟩
              · simp only; omega
      · simp only [↓sx0, sx1, encs, tys, sxR, sevalprocAttr]
        repeat ((with_reducible refine BrW.no (by omega) ?_); simp only [↓sx0, sx1, encs, tys, sxR, sevalprocAttr])
        refine CallI.inl (rs := [.tmp 6]) Tok Try.func77 rfl rfl rfl rfl (by simp) (fun ρ σ μ fr lp => ?_)
        simp only [↓sx0, sx1, encs, tys, sxR, sevalprocAttr]
        repeat ((with_reducible refine BrW.no (by omega) ?_); simp only [↓sx0, sx1, encs, tys, sxR, sevalprocAttr])
        refine BrW.dec (fun f2 => ?_) (fun f2 => ?_)
        · simp only [↓sx0, sx1, encs, tys, sxR, sevalprocAttr]
          repeat ((with_reducible refine BrW.yes (by omega) ?_); simp only [↓sx0, sx1, encs, tys, sxR, sevalprocAttr])
          rw [if_neg (by omega), if_neg (by simp only [nxOk, Bool.or_eq_true, Bool.and_eq_true, decide_eq_true_eq]; omega)] at hE
          rw [← hE]
          exact EndW.fn (by simp only [sx4, encs, kpLL_map, sxR, sevalprocAttr] <;> (try simp) <;> (try omega)) (by simp only [sx4, encs, kpLL_map, sxR, sevalprocAttr] <;> (try simp) <;> (try omega))
        · simp only [↓sx0, sx1, encs, tys, sxR, sevalprocAttr]
          repeat ((with_reducible refine BrW.no (by omega) ?_); simp only [↓sx0, sx1, encs, tys, sxR, sevalprocAttr])
          refine BrW.dec (fun f3 => ?_) (fun f3 => ?_)
          · simp only [↓sx0, sx1, encs, tys, sxR, sevalprocAttr]
            rw [if_neg (by omega), if_neg (by simp only [nxOk, Bool.or_eq_true, Bool.and_eq_true, decide_eq_true_eq]; omega)] at hE
            rw [← hE]
            exact EndW.fn (by simp only [sx4, encs, kpLL_map, sxR, sevalprocAttr] <;> (try simp) <;> (try omega)) (by simp only [sx4, encs, kpLL_map, sxR, sevalprocAttr] <;> (try simp) <;> (try omega))
          · simp only [↓sx0, sx1, encs, tys, sxR, sevalprocAttr]
            repeat ((with_reducible refine Vc.go ?_ fun _ => ?_); (focus (first | omega | (simp only [InK]; omega) | (simp [InK]; done) | (simp [InK]; omega))); simp only [↓sx0, sx1, encs, tys, sxR, sevalprocAttr])
            refine CallI.inl (rs := [.tmp 6]) Tok Try.func77 rfl rfl rfl rfl (by simp) (fun ρ σ μ fr lp => ?_)
            simp only [↓sx0, sx1, encs, tys, sxR, sevalprocAttr]
            refine BrW.dec (fun g1 => ?_) (fun g1 => ?_)
            · simp only [↓sx0, sx1, encs, tys, sxR, sevalprocAttr]
              repeat ((with_reducible refine BrW.yes (by omega) ?_); simp only [↓sx0, sx1, encs, tys, sxR, sevalprocAttr])
              refine DrawW.plan Tok mixed (.q 0 <| .q 1 <| .q 2 <| .q 3 <| .q 4 <| .q 5 <| .q 6 <| .q 7 <| .q 8 <| .q 9 <| .q 10 <| .q 11 <| .q 12 <| .q 13 <| .q 14 <| .q 15 <| .q 16 <| .q 17 <| .q 18 <| .q 19 <| .q 20 <| .done) (by kernel_rfl) (by kernel_rfl) ?_
              simp only [↓sx0, sx1, encs, tys, sxR, sevalprocAttr]
              repeat ((with_reducible refine BrW.yes (by omega) ?_); simp only [↓sx0, sx1, encs, tys, sxR, sevalprocAttr])
              repeat ((with_reducible refine BrW.no (by omega) ?_); simp only [↓sx0, sx1, encs, tys, sxR, sevalprocAttr])
              repeat ((with_reducible refine BrW.yes (by omega) ?_); simp only [↓sx0, sx1, encs, tys, sxR, sevalprocAttr])
              repeat ((with_reducible refine Vc.go ?_ fun _ => ?_); (focus (first | omega | (simp only [InK]; omega) | (simp [InK]; done) | (simp [InK]; omega))); simp only [↓sx0, sx1, encs, tys, sxR, sevalprocAttr])
              rw [if_neg (by omega), if_pos (by simp only [nxOk, Bool.or_eq_true, Bool.and_eq_true, decide_eq_true_eq]; omega)] at hE
              rw [show nxI x.fr i = i + 1 by rw [nxI, if_neg (by omega)]] at hE
              rw [show nxI x.to k = k by rw [nxI, if_pos (by omega)]] at hE
              rw [show edC a b x i k = 1 by rw [edC, if_pos (by first | omega | (simp only [hab]; simp [hne]))]] at hE
              repeat ((with_reducible refine Vc.go ?_ fun _ => ?_); (focus (first | omega | (simp only [InK]; omega) | (simp [InK]; done) | (simp [InK]; omega))); simp only [↓sx0, sx1, encs, tys, sxR, sevalprocAttr])
              refine ⟨⟨n + 1, i + 1, k, c + 1⟩, StLe.auto (by simp only [sx2, encs, sxR, sevalprocAttr] <;> (try simp) <;> (try omega)), ?_, ?_⟩
              · exact ⟨⟨by simp only; omega, by simp only; omega, by simp only; omega, by simp only; omega⟩, hE⟩
              · simp only; omega
            · simp only [↓sx0, sx1, encs, tys, sxR, sevalprocAttr]
              refine BrW.dec (fun g2 => ?_) (fun g2 => ?_)
              · simp only [↓sx0, sx1, encs, tys, sxR, sevalprocAttr]
                repeat ((with_reducible refine BrW.yes (by omega) ?_); simp only [↓sx0, sx1, encs, tys, sxR, sevalprocAttr])
                rw [if_neg (by omega), if_neg (by simp only [nxOk, Bool.or_eq_true, Bool.and_eq_true, decide_eq_true_eq]; omega)] at hE
                rw [← hE]
                exact EndW.fn (by simp only [sx4, encs, kpLL_map, sxR, sevalprocAttr] <;> (try simp) <;> (try omega)) (by simp only [sx4, encs, kpLL_map, sxR, sevalprocAttr] <;> (try simp) <;> (try omega))
              · simp only [↓sx0, sx1, encs, tys, sxR, sevalprocAttr]
                repeat ((with_reducible refine BrW.no (by omega) ?_); simp only [↓sx0, sx1, encs, tys, sxR, sevalprocAttr])
                refine BrW.dec (fun g3 => ?_) (fun g3 => ?_)
                · simp only [↓sx0, sx1, encs, tys, sxR, sevalprocAttr]
                  rw [if_neg (by omega), if_neg (by simp only [nxOk, Bool.or_eq_true, Bool.and_eq_true, decide_eq_true_eq]; omega)] at hE
                  rw [← hE]
                  exact EndW.fn (by simp only [sx4, encs, kpLL_map, sxR, sevalprocAttr] <;> (try simp) <;> (try omega)) (by simp only [sx4, encs, kpLL_map, sxR, sevalprocAttr] <;> (try simp) <;> (try omega))
                · simp only [↓sx0, sx1, encs, tys, sxR, sevalprocAttr]
                  repeat ((with_reducible refine Vc.go ?_ fun _ => ?_); (focus (first | omega | (simp only [InK]; omega) | (simp [InK]; done) | (simp [InK]; omega))); simp only [↓sx0, sx1, encs, tys, sxR, sevalprocAttr])
                  refine DrawW.plan Tok mixed (.q 0 <| .q 1 <| .q 2 <| .q 3 <| .q 4 <| .q 5 <| .q 6 <| .q 7 <| .q 8 <| .q 9 <| .q 10 <| .q 11 <| .q 12 <| .q 13 <| .q 14 <| .q 15 <| .q 16 <| .q 17 <| .q 18 <| .q 19 <| .q 20 <| .done) (by kernel_rfl) (by kernel_rfl) ?_
                  simp only [↓sx0, sx1, encs, tys, sxR, sevalprocAttr]
                  repeat ((with_reducible refine BrW.no (by omega) ?_); simp only [↓sx0, sx1, encs, tys, sxR, sevalprocAttr])
                  have hia : i < a.length := by omega
                  have hkb : k < b.length := by omega
                  have e1 : x.fr = (i : Int) := by omega
                  have e2 : x.to = (k : Int) := by omega
                  refine ⟨by omega, _, (by rw [e1, Int.toNat_natCast, List.getElem?_map, List.getElem?_eq_getElem hia]; rfl), ?_⟩
                  simp only [↓sx0, sx1, encs, tys, sxR, sevalprocAttr]
                  refine ⟨by omega, _, (by rw [e2, Int.toNat_natCast, List.getElem?_map, List.getElem?_eq_getElem hkb]; rfl), ?_⟩
                  simp only [↓sx0, sx1, encs, tys, sxR, sevalprocAttr]
                  have hab : a[i]? = some a[i] ∧ b[k]? = some b[k] := ⟨List.getElem?_eq_getElem hia, List.getElem?_eq_getElem hkb⟩
                  refine BrW.dec (fun hne => ?_) (fun hne => ?_)
                  · simp only [↓sx0, sx1, encs, tys, sxR, sevalprocAttr]
                    rw [if_neg (by omega), if_pos (by simp only [nxOk, Bool.or_eq_true, Bool.and_eq_true, decide_eq_true_eq]; omega)] at hE
                    rw [show nxI x.fr i = i + 1 by rw [nxI, if_neg (by omega)]] at hE
                    rw [show nxI x.to k = k + 1 by rw [nxI, if_neg (by omega)]] at hE
                    rw [show edC a b x i k = 1 by rw [edC, if_pos (by first | omega | (simp only [hab]; simp [hne]))]] at hE
                    repeat ((with_reducible refine Vc.go ?_ fun _ => ?_); (focus (first | omega | (simp only [InK]; omega) | (simp [InK]; done) | (simp [InK]; omega))); simp only [↓sx0, sx1, encs, tys, sxR, sevalprocAttr])
                    refine ⟨⟨n + 1, i + 1, k + 1, c + 1⟩, StLe.auto (by simp only [sx2, encs, sxR, sevalprocAttr] <;> (try simp) <;> (try omega)), ?_, ?_⟩
                    · exact ⟨⟨by simp only; omega, by simp only; omega, by simp only; omega, by simp only; omega⟩, hE⟩
                    · simp only; omega
                  · simp only [↓sx0, sx1, encs, tys, sxR, sevalprocAttr]
                    rw [if_neg (by omega), if_pos (by simp only [nxOk, Bool.or_eq_true, Bool.and_eq_true, decide_eq_true_eq]; omega)] at hE
                    rw [show nxI x.fr i = i + 1 by rw [nxI, if_neg (by omega)]] at hE
                    rw [show nxI x.to k = k + 1 by rw [nxI, if_neg (by omega)]] at hE
                    rw [show edC a b x i k = 0 by rw [edC, if_neg (by simp only [hab]; simp [hne]; omega)]] at hE
                    repeat ((with_reducible refine Vc.go ?_ fun _ => ?_); (focus (first | omega | (simp only [InK]; omega) | (simp [InK]; done) | (simp [InK]; omega))); simp only [↓sx0, sx1, encs, tys, sxR, sevalprocAttr])
                    refine ⟨⟨n + 1, i + 1, k + 1, c⟩, StLe.auto (by simp only [sx2, encs, sxR, sevalprocAttr] <;> (try simp) <;> (try omega)), ?_, ?_⟩
                    · exact ⟨⟨by simp only; omega, by simp only; omega, by simp only; omega, by simp only; omega⟩, hE⟩
                    · simp only; omega
    · simp only [↓sx0, sx1, encs, tys, sxR, sevalprocAttr]
      have hne : n = l.length := by omega
      subst hne
      rw [List.drop_length, edF] at hE
      refine BrW.dec (fun ti => ?_) (fun ti => ?_)
      · simp only [↓sx0, sx1, encs, tys, sxR, sevalprocAttr]
        repeat ((with_reducible refine BrW.yes (by omega) ?_); simp only [↓sx0, sx1, encs, tys, sxR, sevalprocAttr])
        rw [if_neg (by omega)] at hE
        rw [← hE]
        exact EndW.fn (by simp only [sx4, encs, kpLL_map, sxR, sevalprocAttr] <;> (try simp) <;> (try omega)) (by simp only [sx4, encs, kpLL_map, sxR, sevalprocAttr] <;> (try simp) <;> (try omega))
      · simp only [↓sx0, sx1, encs, tys, sxR, sevalprocAttr]
        repeat ((with_reducible refine BrW.no (by omega) ?_); simp only [↓sx0, sx1, encs, tys, sxR, sevalprocAttr])
        refine BrW.dec (fun tk => ?_) (fun tk => ?_)
        · rw [if_neg (by omega)] at hE
          rw [← hE]
          simp only [↓sx0, sx1, encs, tys, sxR, sevalprocAttr]
          exact EndW.fn (by simp only [sx4, encs, kpLL_map, sxR, sevalprocAttr] <;> (try simp) <;> (try omega)) (by simp only [sx4, encs, kpLL_map, sxR, sevalprocAttr] <;> (try simp) <;> (try omega))
        · rw [if_pos (by omega)] at hE
          rw [← hE]
          simp only [↓sx0, sx1, encs, tys, sxR, sevalprocAttr]
          exact EndW.fn (by simp only [sx4, encs, kpLL_map, sxR, sevalprocAttr] <;> (try simp) <;> (try omega)) (by simp only [sx4, encs, kpLL_map, sxR, sevalprocAttr] <;> (try simp) <;> (try omega))
end Go.Proofs.Ytenohgpackcjbaa
