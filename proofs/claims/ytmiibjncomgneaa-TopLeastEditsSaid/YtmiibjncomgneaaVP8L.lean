/-
 Chapter 8, plain: no fewer marks than the least edits cost.
-/
import Derived.Test.YtmiibjncomgneaaVP8K
namespace Go.Proofs.Ytmiibjncomgneaa
open Go Go.Vx
set_option linter.unusedSimpArgs false
set_option linter.unusedVariables false
theorem dst_i (a b : List ByteArray) : ∀ i, dst a b i 0 = i
 | 0 => by simp [dst]
 | i + 1 => by rw [dst, dst_i a b i]; omega
theorem dst_k (a b : List ByteArray) : ∀ k, dst a b 0 k = k
 | 0 => by simp [dst]
 | k + 1 => by rw [dst, dst_k a b k]; omega
theorem dst_L2 (a b : List ByteArray) (i k : Nat) : dst a b (i + 1) k ≤ dst a b i k + 1 := by
 cases k with
 | zero => rw [dst]; omega
 | succ k => rw [dst]; omega
theorem dst_L1 (a b : List ByteArray) : ∀ i k, dst a b i k ≤ dst a b i (k + 1) + 1
 | 0, k => by rw [dst_k, dst_k]; omega
 | i + 1, k => by
  have h1 := dst_L1 a b i k
  have h2 := dst_L2 a b i k
  have h3 := chN_b a b i k
  have e : dst a b (i + 1) (k + 1) = min (min (dst a b i k + chN a b i k) (dst a b i (k + 1) + 1)) (dst a b (i + 1) k + 1) := by rw [dst]
  omega
theorem dst_ins (a b : List ByteArray) (i k : Nat) : dst a b i (k + 1) ≤ dst a b i k + 1 := by
 cases i with
 | zero => rw [dst_k, dst_k]; omega
 | succ i => rw [dst]; omega
theorem dst_same {a b b' : List ByteArray} : ∀ (k : Nat), (∀ j, j < k → b[j]? = b'[j]?) → ∀ i, dst a b i k = dst a b' i k
 | 0, _, i => by rw [dst_i, dst_i]
 | k + 1, h, 0 => by rw [dst_k, dst_k]
 | k + 1, h, i + 1 => by
  have h1 := dst_same (a := a) k (fun j hj => h j (by omega))
  have h2 := dst_same (a := a) (k + 1) h i
  have hc : chN a b i k = chN a b' i k := by rw [chN, chN, h k (by omega)]
  rw [dst, dst, h1 i, h1 (i + 1), h2, hc]
/-- one step further, where what was before is at most one dearer. -/
theorem dst_step {a b b' : List ByteArray} {p p' : Nat} (hp : p' ≤ p + 1) (h : ∀ i, dst a b' i p' ≤ dst a b i p + 1) (he : b[p]? = b'[p']?) : ∀ i, dst a b' i (p' + 1) ≤ dst a b i (p + 1) + 1
 | 0 => by rw [dst_k, dst_k]; omega
 | i + 1 => by
  have ih := dst_step hp h he i
  have hc : chN a b i p = chN a b' i p' := by rw [chN, chN, he]
  have h0 := h i
  have h1 := h (i + 1)
  have e : dst a b (i + 1) (p + 1) = min (min (dst a b i p + chN a b i p) (dst a b i (p + 1) + 1)) (dst a b (i + 1) p + 1) := by rw [dst]
  have e' : dst a b' (i + 1) (p' + 1) = min (min (dst a b' i p' + chN a b' i p') (dst a b' i (p' + 1) + 1)) (dst a b' (i + 1) p' + 1) := by rw [dst]
  omega
theorem dst_chg {a b b' : List ByteArray} {p : Nat} (h : ∀ i, dst a b' i p = dst a b i p) : ∀ i, dst a b' i (p + 1) ≤ dst a b i (p + 1) + 1
 | 0 => by rw [dst_k, dst_k]; omega
 | i + 1 => by
  have ih := dst_chg h i
  have h0 := h i
  have h1 := h (i + 1)
  have hc := chN_b a b i p
  have hc' := chN_b a b' i p
  have e : dst a b (i + 1) (p + 1) = min (min (dst a b i p + chN a b i p) (dst a b i (p + 1) + 1)) (dst a b (i + 1) p + 1) := by rw [dst]
  have e' : dst a b' (i + 1) (p + 1) = min (min (dst a b' i p + chN a b' i p) (dst a b' i (p + 1) + 1)) (dst a b' (i + 1) p + 1) := by rw [dst]
  omega
theorem dst_tail {a A X Y B : List ByteArray} (hl : Y.length ≤ X.length + 1) (h : ∀ i, dst a (A ++ Y ++ B) i (A.length + Y.length) ≤ dst a (A ++ X ++ B) i (A.length + X.length) + 1) :
  ∀ j, j ≤ B.length → ∀ i, dst a (A ++ Y ++ B) i (A.length + Y.length + j) ≤ dst a (A ++ X ++ B) i (A.length + X.length + j) + 1
 | 0, _ => h
 | j + 1, hj => by
  refine dst_step (p := A.length + X.length + j) (p' := A.length + Y.length + j) (by omega) (dst_tail hl h j (by omega)) ?_
  have e1 : A.length + X.length + j = (A ++ X).length + j := by simp
  have e2 : A.length + Y.length + j = (A ++ Y).length + j := by simp
  rw [e1, e2, List.getElem?_append_right (by omega), List.getElem?_append_right (by omega)]
  simp
/-- a single out, in or change. -/
theorem dst_WW {a w w' : List ByteArray} {m : Mk} (hm : 1 ≤ m.mark ∧ m.mark ≤ 3) (h : WW m w w') : dst a w' a.length w'.length ≤ dst a w a.length w.length + 1 ∧ w'.length ≤ w.length + 1 := by
 obtain ⟨A, X, Y, B, ⟨q1, q2⟩, rfl, rfl⟩ := h
 have pre : ∀ Z : List ByteArray, ∀ j, j < A.length → (A ++ Z ++ B)[j]? = A[j]? := fun Z j hj => by
  rw [List.append_assoc, List.getElem?_append_left hj]
 have hA : ∀ i, dst a (A ++ Y ++ B) i A.length = dst a (A ++ X ++ B) i A.length := dst_same A.length fun j hj => by rw [pre Y j hj, pre X j hj]
 have key : Y.length ≤ X.length + 1 ∧ ∀ i, dst a (A ++ Y ++ B) i (A.length + Y.length) ≤ dst a (A ++ X ++ B) i (A.length + X.length) + 1 := by
  rcases q2 with ⟨c, rfl, rfl⟩ | ⟨c, rfl, rfl⟩ | ⟨c, rfl, rfl⟩ | ⟨c, -⟩
  ·refine ⟨by simp, fun i => ?_⟩
   have h1 := dst_L1 a (A ++ [m.old] ++ B) i A.length
   have h2 := hA i
   simp only [List.length_nil, List.length_singleton, Nat.add_zero] at h2 ⊢
   omega
  ·refine ⟨by simp, fun i => ?_⟩
   have h1 := dst_ins a (A ++ [m.new] ++ B) i A.length
   have h2 := hA i
   simp only [List.length_nil, List.length_singleton, Nat.add_zero] at h2 ⊢
   omega
  ·exact ⟨by simp, dst_chg hA⟩
  ·omega
 have := dst_tail key.1 key.2 B.length (Nat.le_refl _) a.length
 simp only [List.length_append]
 exact ⟨this, by omega⟩
theorem dst_self (a : List ByteArray) : ∀ i, dst a a i i = 0
 | 0 => by simp [dst]
 | i + 1 => by
  have h := dst_self a i
  have hb := dst_b a a (i + 1) (i + 1)
  have hc : chN a a i i = 0 := by rw [chN, if_pos rfl]
  have e : dst a a (i + 1) (i + 1) = min (min (dst a a i i + chN a a i i) (dst a a i (i + 1) + 1)) (dst a a (i + 1) i + 1) := by rw [dst]
  omega
theorem RP_one {m : Mk} {p : Pt} {x : List Pt} (hm : 1 ≤ m.mark ∧ m.mark ≤ 3) (hp : m.part = 0) (h : RP m [p] x) : ∃ w', x = [⟨p.kind, w'⟩] ∧ WW m p.words w' := by
 obtain ⟨P, U, V, Q, ⟨p1, g⟩, e, rfl⟩ := h
 obtain ⟨κ, w, w', ⟨rfl, rfl⟩, hw⟩ := GP_w g (by rw [ow_iff]; omega)
 have hP : P = [] := List.length_eq_zero_iff.1 (by omega)
 subst hP
 simp only [List.nil_append, List.cons_append, List.cons.injEq] at e
 obtain ⟨rfl, rfl⟩ := e
 exact ⟨w', by simp, hw⟩
theorem RPs_one {ms : List Mk} {κ : Int} {w0 : List ByteArray} : ∀ {w : List ByteArray} {x : List Pt}, (∀ m ∈ ms, (1 ≤ m.mark ∧ m.mark ≤ 3) ∧ m.part = 0) → RPs ms [⟨κ, w⟩] x →
  ∃ w', x = [⟨κ, w'⟩] ∧ dst w0 w' w0.length w'.length ≤ dst w0 w w0.length w.length + ms.length ∧ w'.length ≤ w.length + ms.length := by
 induction ms with
 | nil => intro w x _ h; exact ⟨w, h.symm, by simp, by simp⟩
 | cons m ms ih =>
  intro w x hm h
  obtain ⟨y, h1, h2⟩ := h
  obtain ⟨c1, c2⟩ := hm m List.mem_cons_self
  obtain ⟨w1, rfl, hw⟩ := RP_one c1 c2 h1
  obtain ⟨w', rfl, d1, d2⟩ := ih (fun x hx => hm x (List.mem_cons_of_mem _ hx)) h2
  obtain ⟨s1, s2⟩ := dst_WW (a := w0) c1 hw
  simp only at s1 s2
  refine ⟨w', rfl, ?_, ?_⟩
  ·simp only [List.length_cons]; omega
  ·simp only [List.length_cons]; omega
end Go.Proofs.Ytmiibjncomgneaa
