import Derived.Test.YtfmeiapglpphpaaVText
set_option linter.unusedSimpArgs false
set_option linter.unusedVariables false
/- The laws on vectors. -/
namespace Go.Proofs.Ytfmeiapglpphpaa.T
open Go Go.VL Go.Proofs
set_option maxRecDepth 100000
set_option maxHeartbeats 4000000
theorem upto_succ {P : Nat → Prop} {k : Nat} (h : ∀ i, i < k → P i) (hk : P k) : ∀ i, i < k + 1 → P i := fun i hi => by
  rcases Nat.lt_or_ge i k with h' | h'
  · exact h i h'
  · obtain rfl : i = k := by omega
    exact hk
theorem fill_rep {f : Nat → Int} {n : Nat} : fill f (List.replicate n 0) n = (List.range n).map f := by simp [fill]
theorem fillr_len {f : Nat → Int} {n k : Nat} (h : k ≤ n) : (fill f (List.replicate n 0) k).length = n := by rw [fill_len (by simpa using h)]; simp
theorem fillr_set {f : Nat → Int} {n k : Nat} (h : k < n) : (fill f (List.replicate n 0) k).set k (f k) = fill f (List.replicate n 0) (k + 1) := fill_set (by simpa using h)
theorem vecOk_map {f : Nat → Int} {n : Nat} (h1 : 1 ≤ n) (h2 : n ≤ 64) (h : ∀ i, i < n → -32767 ≤ f i) : vecOk ((List.range n).map f) = true := by
  rw [vecOk_iff]
  refine ⟨by simpa using h1, by simpa using h2, fun x hx => ?_⟩
  obtain ⟨i, hi, rfl⟩ := List.mem_map.1 hx
  exact h i (by simpa using hi)
theorem i16_map {f : Nat → Int} {n : Nat} (h : ∀ i, i < n → -32767 ≤ f i ∧ f i ≤ 32767) : I16s ((List.range n).map f) := by
  intro x hx
  obtain ⟨i, hi, rfl⟩ := List.mem_map.1 hx
  have := h i (by simpa using hi)
  omega
theorem vecOk_len {a : List Int} (h : vecOk a = true) : 1 ≤ a.length ∧ a.length ≤ 64 := let ⟨h1, h2, _⟩ := vecOk_iff.1 h; ⟨h1, h2⟩
theorem dist_eq {a b : List Int} (h : pairErr a b = 0) : dist a b = sumN sq a b a.length := sumOf_ok h
theorem dot_eq {a b : List Int} (h : pairErr a b = 0) : dot a b = sumN (· * ·) a b a.length := sumOf_ok h
theorem dist_range {a b : List Int} (ha : I16s a) (hb : I16s b) : 0 ≤ dist a b ∧ dist a b ≤ 274869518400 := by
  unfold dist sumOf
  split
  · rename_i h
    have hl := (vecOk_len (pairErr_zero.1 h).1).2
    have key : ∀ k : Nat, 0 ≤ sumN sq a b k ∧ sumN sq a b k ≤ k * 4294836225 := by
      intro k
      induction k with
      | zero => simp [sumN]
      | succ k ih => have := sq_bound (ha.getD k) (hb.getD k); rw [sumN]; omega
    have := key a.length
    omega
  · omega
theorem dot_range {a b : List Int} (ha : I16s a) (hb : I16s b) : -68719476736 ≤ dot a b ∧ dot a b ≤ 68719476736 := by
  unfold dot sumOf
  split
  · rename_i h
    have hl := (vecOk_len (pairErr_zero.1 h).1).2
    have := sumN_bound (ρ := (· * ·)) (a := a) (b := b) (M := 1073741824) (fun i => mul_bound (ha.getD i) (hb.getD i)) a.length
    omega
  · omega
end Go.Proofs.Ytfmeiapglpphpaa.T
