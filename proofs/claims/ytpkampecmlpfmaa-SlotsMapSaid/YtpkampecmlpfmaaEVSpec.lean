import Derived.Test.YtpkampecmlpfmaaEPSpec
import Derived.Test.YtpkampecmlpfmaaLE
/- Vectors, plainly. -/
namespace Go.Proofs.Ytpkampecmlpfmaa.T
open Go Go.VL Go.Proofs
def I16s (l : List Int) : Prop := ∀ x ∈ l, -32768 ≤ x ∧ x ≤ 32767
theorem I16s.at {l : List Int} (h : I16s l) {k : Nat} (hk : k < l.length) : -32768 ≤ l.getD k 0 ∧ l.getD k 0 ≤ 32767 := h _ (getD_mem hk)
theorem I16s.getD {l : List Int} (h : I16s l) (k : Nat) : -32768 ≤ l.getD k 0 ∧ l.getD k 0 ≤ 32767 := by
  by_cases hk : k < l.length
  · exact h.at hk
  · rw [show l.getD k 0 = 0 by simp [List.getD, List.getElem?_eq_none (show l.length ≤ k by omega)]]; omega
theorem I16s.take {l : List Int} (h : I16s l) (n : Nat) : I16s (l.take n) := fun x hx => h x (List.mem_of_mem_take hx)
theorem I16s.drop {l : List Int} (h : I16s l) (n : Nat) : I16s (l.drop n) := fun x hx => h x (List.mem_of_mem_drop hx)
theorem I16s.append {l m : List Int} (h : I16s l) (h' : I16s m) : I16s (l ++ m) := fun x hx => (List.mem_append.1 hx).elim (h x) (h' x)
def vecOk (l : List Int) : Bool := decide (1 ≤ l.length) && decide (l.length ≤ 64) && l.all fun x => decide (-32767 ≤ x)
def vecErr (l : List Int) : Int := if vecOk l then 0 else 1
theorem vecOk_iff {l : List Int} : vecOk l = true ↔ 1 ≤ l.length ∧ l.length ≤ 64 ∧ ∀ x ∈ l, -32767 ≤ x := by
  unfold vecOk
  simp only [Bool.and_eq_true, decide_eq_true_eq, List.all_eq_true, and_assoc]
theorem vecErr_zero {l : List Int} : vecErr l = 0 ↔ vecOk l = true := by
  unfold vecErr; split <;> simp_all
theorem vecErr_one {l : List Int} (h : vecErr l ≠ 0) : vecErr l = 1 := by
  unfold vecErr at *; split <;> simp_all
def mn (a b : Int) : Int := if b < a then b else a
def minL (l : List Int) : Int := l.foldl mn (l.getD 0 0)
theorem foldl_mn_lt (c : Int) : ∀ (l : List Int) (a : Int), (l.foldl mn a < c ↔ a < c ∨ ∃ x ∈ l, x < c)
  | [], a => by simp
  | x :: l, a => by
    rw [List.foldl_cons, foldl_mn_lt c l]
    simp only [List.mem_cons, exists_eq_or_imp]
    unfold mn
    split <;> constructor <;> rintro (h | h) <;> first | exact .inr (.inr h) | (rcases h with h | h <;> first | exact .inr h | (left; omega)) | (first | (left; omega) | (right; left; omega))
theorem minL_lt {l : List Int} (h : 0 < l.length) (c : Int) : (minL l < c ↔ ∃ x ∈ l, x < c) := by
  unfold minL
  rw [foldl_mn_lt]
  constructor
  · rintro (h1 | h1)
    · exact ⟨_, getD_mem (d := 0) h, h1⟩
    · exact h1
  · exact .inr
theorem vec_min {l : List Int} (h1 : 1 ≤ l.length) (h2 : l.length ≤ 64) : vecOk l = decide (¬ minL l < -32767) := by
  rw [Bool.eq_iff_iff, vecOk_iff, decide_eq_true_eq, minL_lt (by omega)]
  constructor
  · rintro ⟨_, _, h⟩ ⟨x, hx, hlt⟩; have := h x hx; omega
  · intro h
    refine ⟨h1, h2, fun x hx => ?_⟩
    refine Int.not_lt.1 fun hlt => h ⟨x, hx, hlt⟩
theorem vecErr_len {l : List Int} (h : ¬ (1 ≤ l.length ∧ l.length ≤ 64)) : vecErr l = 1 := by
  unfold vecErr
  rw [if_neg]
  rw [vecOk_iff]
  rintro ⟨h1, h2, _⟩
  exact h ⟨h1, h2⟩
theorem vecErr_min {l : List Int} (h1 : 1 ≤ l.length) (h2 : l.length ≤ 64) : vecErr l = if minL l < -32767 then 1 else 0 := by
  unfold vecErr
  rw [vec_min h1 h2]
  by_cases h : minL l < -32767 <;> simp [h]
theorem vecErr_at {l : List Int} {k : Nat} (hk : k < l.length) (h : l.getD k 0 < -32767) : vecErr l = 1 := by
  unfold vecErr
  rw [if_neg]
  rw [vecOk_iff]
  rintro ⟨_, _, h3⟩
  have := h3 _ (getD_mem (d := 0) hk)
  omega
theorem vecErr_all {l : List Int} (h1 : 1 ≤ l.length) (h2 : l.length ≤ 64) (h : ∀ i, i < l.length → ¬ l.getD i 0 < -32767) : vecErr l = 0 := by
  rw [vecErr_zero, vecOk_iff]
  refine ⟨h1, h2, fun x hx => ?_⟩
  obtain ⟨i, hi, rfl⟩ := List.mem_iff_getElem.1 hx
  have := h i hi
  simp [List.getD, hi] at this
  omega
def sumN (ρ : Int → Int → Int) (a b : List Int) : Nat → Int
  | 0 => 0
  | k + 1 => sumN ρ a b k + ρ (a.getD k 0) (b.getD k 0)
theorem sumN_bound {ρ : Int → Int → Int} {a b : List Int} {M : Int} (h : ∀ i, -M ≤ ρ (a.getD i 0) (b.getD i 0) ∧ ρ (a.getD i 0) (b.getD i 0) ≤ M) : ∀ k : Nat, -(k * M) ≤ sumN ρ a b k ∧ sumN ρ a b k ≤ k * M
  | 0 => by simp [sumN]
  | k + 1 => by
    have ih := sumN_bound h k
    have := h k
    rw [sumN]
    have e : ((k + 1 : Nat) : Int) * M = k * M + M := by grind
    rw [e]
    omega
def sq (x y : Int) : Int := (x - y) * (x - y)
theorem sq_le (d : Int) (h : -65535 ≤ d ∧ d ≤ 65535) : d * d ≤ 4294836225 ∧ 0 ≤ d * d := by
  have h1 : 0 ≤ (65535 - d) * (65535 + d) := Int.mul_nonneg (by omega) (by omega)
  have h2 : (65535 - d) * (65535 + d) = 4294836225 - d * d := by grind
  have h3 : 0 ≤ d * d := by
    rcases Int.le_total 0 d with h | h
    · exact Int.mul_nonneg h h
    · exact Int.mul_nonneg_of_nonpos_of_nonpos h h
  omega
theorem sq_bound {x y : Int} (hx : -32768 ≤ x ∧ x ≤ 32767) (hy : -32768 ≤ y ∧ y ≤ 32767) : 0 ≤ sq x y ∧ sq x y ≤ 4294836225 := by
  have := sq_le (x - y) (by omega)
  unfold sq
  omega
theorem mul_bound {x y : Int} (hx : -32768 ≤ x ∧ x ≤ 32767) (hy : -32768 ≤ y ∧ y ≤ 32767) : -1073741824 ≤ x * y ∧ x * y ≤ 1073741824 := by
  have h1 : 0 ≤ (32768 - x) * (32768 + y) := Int.mul_nonneg (by omega) (by omega)
  have h2 : 0 ≤ (32768 + x) * (32768 - y) := Int.mul_nonneg (by omega) (by omega)
  have h3 : 0 ≤ (32768 - x) * (32768 - y) := Int.mul_nonneg (by omega) (by omega)
  have h4 : 0 ≤ (32768 + x) * (32768 + y) := Int.mul_nonneg (by omega) (by omega)
  have e1 : (32768 - x) * (32768 + y) = 1073741824 + 32768 * y - 32768 * x - x * y := by grind
  have e2 : (32768 + x) * (32768 - y) = 1073741824 - 32768 * y + 32768 * x - x * y := by grind
  have e3 : (32768 - x) * (32768 - y) = 1073741824 - 32768 * y - 32768 * x + x * y := by grind
  have e4 : (32768 + x) * (32768 + y) = 1073741824 + 32768 * y + 32768 * x + x * y := by grind
  omega
def pairErr (a b : List Int) : Int := if vecErr a = 0 ∧ vecErr b = 0 ∧ a.length = b.length then 0 else 1
def sumOf (ρ : Int → Int → Int) (a b : List Int) : Int := if pairErr a b = 0 then sumN ρ a b a.length else 0
def dist (a b : List Int) : Int := sumOf sq a b
def dot (a b : List Int) : Int := sumOf (· * ·) a b
theorem pairErr_zero {a b : List Int} : pairErr a b = 0 ↔ vecOk a = true ∧ vecOk b = true ∧ a.length = b.length := by
  unfold pairErr
  simp only [vecErr_zero]
  split <;> simp_all
theorem pairErr_a {a b : List Int} (h : ¬ vecErr a = 0) : pairErr a b = 1 := by unfold pairErr; rw [if_neg (fun h' => h h'.1)]
theorem pairErr_b {a b : List Int} (h : ¬ vecErr b = 0) : pairErr a b = 1 := by unfold pairErr; rw [if_neg (fun h' => h h'.2.1)]
theorem pairErr_l {a b : List Int} (h : ¬ a.length = b.length) : pairErr a b = 1 := by unfold pairErr; rw [if_neg (fun h' => h h'.2.2)]
theorem pairErr_ok {a b : List Int} (h1 : vecErr a = 0) (h2 : vecErr b = 0) (h3 : a.length = b.length) : pairErr a b = 0 := by unfold pairErr; rw [if_pos ⟨h1, h2, h3⟩]
theorem sumOf_no {ρ : Int → Int → Int} {a b : List Int} (h : pairErr a b = 1) : sumOf ρ a b = 0 := by unfold sumOf; rw [h]; rfl
theorem sumOf_ok {ρ : Int → Int → Int} {a b : List Int} (h : pairErr a b = 0) : sumOf ρ a b = sumN ρ a b a.length := by unfold sumOf; rw [h]; rfl
end Go.Proofs.Ytpkampecmlpfmaa.T
