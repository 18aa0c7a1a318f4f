import Derived.Test.YtpkampecmlpfmaaETMore
import Derived.Test.YtpkampecmlpfmaaETGrpM
set_option linter.unusedSimpArgs false
set_option linter.unusedVariables false
/- Vectors turned, plainly. -/
namespace Go.Proofs.Ytpkampecmlpfmaa.T
open Go Go.VL Go.Proofs
theorem turnAt_out {v : List Int} {w i : Nat} (h : ¬ (i < 62 ∧ i / 2 * 2 + 1 < v.length)) : turnAt v w i = v.getD i 0 := by unfold turnAt; rw [if_neg h]
theorem turn_split (n i : Nat) : (∃ k, k < 31 ∧ 2 * k + 1 < n ∧ (i = 2 * k ∨ i = 2 * k + 1)) ∨ ¬ (i < 62 ∧ i / 2 * 2 + 1 < n) := by
  by_cases h : i < 62 ∧ i / 2 * 2 + 1 < n
  · exact .inl ⟨i / 2, by omega, by omega, by omega⟩
  · exact .inr h
theorem rot_comp {d e f : Nat} (hd : d < 4) (he : e < 4) (hf : f = (d + e) % 4) (x y : Int) : rx e (rx d x y) (ry d x y) = rx f x y ∧ ry e (rx d x y) (ry d x y) = ry f x y := by
  subst hf
  have h1 : d = 0 ∨ d = 1 ∨ d = 2 ∨ d = 3 := by omega
  have h2 : e = 0 ∨ e = 1 ∨ e = 2 ∨ e = 3 := by omega
  rcases h1 with rfl | rfl | rfl | rfl <;> rcases h2 with rfl | rfl | rfl | rfl <;> simp [rx, ry, cs, sn]
theorem turn_turn {v : List Int} {a b c : Nat} (h : ∀ k, k < 31 → dg c k = (dg a k + dg b k) % 4) : turnL (turnL v a) b = turnL v c := by
  refine ext_getD (d := 0) (by rw [turnL_length, turnL_length, turnL_length]) fun i hi => ?_
  rw [turnL_length, turnL_length] at hi
  rw [turnL_getD (by rw [turnL_length]; exact hi), turnL_getD hi]
  rcases turn_split v.length i with ⟨k, hk, hl, hi2⟩ | ho
  · obtain ⟨r1, r2⟩ := rot_comp (dg_lt a k) (dg_lt b k) (h k hk) (v.getD (2 * k) 0) (v.getD (2 * k + 1) 0)
    rcases hi2 with rfl | rfl
    · rw [turnAt_even (by rw [turnL_length]; exact hl) hk, turnAt_even hl hk, turnL_getD (by omega), turnL_getD (by omega), turnAt_even hl hk, turnAt_odd hl hk, r1]
    · rw [turnAt_odd (by rw [turnL_length]; exact hl) hk, turnAt_odd hl hk, turnL_getD (by omega), turnL_getD (by omega), turnAt_even hl hk, turnAt_odd hl hk, r2]
  · rw [turnAt_out (by rw [turnL_length]; exact ho), turnAt_out ho, turnL_getD hi, turnAt_out ho]
theorem turn_zero {v : List Int} : turnL v 0 = v := by
  refine ext_getD (d := 0) turnL_length fun i hi => ?_
  rw [turnL_length] at hi
  rw [turnL_getD hi]
  rcases turn_split v.length i with ⟨k, hk, hl, rfl | rfl⟩ | ho
  · rw [turnAt_even hl hk, dg_zero_l]; simp [rx, cs, sn]
  · rw [turnAt_odd hl hk, dg_zero_l]; simp [ry, cs, sn]
  · rw [turnAt_out ho]
theorem turn_both {v : List Int} {a b : Int} : turnL (turnL v a.toNat) b.toNat = turnL v (bothW a b).toNat := turn_turn fun k hk => dg_both hk
theorem turn_back {v : List Int} {a : Int} : turnL (turnL v a.toNat) (notW a).toNat = v := by
  rw [turn_both, both_not]; exact turn_zero
theorem dg_two : ∀ k, k < 31 → dg 3074457345618258602 k = 2 := by decide
theorem turn_half {v : List Int} {i : Nat} (hi : i < v.length) : (turnL v 3074457345618258602).getD i 0 = if i < 62 ∧ i / 2 * 2 + 1 < v.length then - v.getD i 0 else v.getD i 0 := by
  rw [turnL_getD hi]
  rcases turn_split v.length i with ⟨k, hk, hl, rfl | rfl⟩ | ho
  · rw [turnAt_even hl hk, dg_two k hk, if_pos (by omega)]; simp [rx, cs, sn]
  · rw [turnAt_odd hl hk, dg_two k hk, if_pos (by omega)]; simp [ry, cs, sn]
  · rw [turnAt_out ho, if_neg ho]
-- how far apart
theorem sq_rot {d : Nat} (hd : d < 4) (x y x' y' : Int) : sq (rx d x y) (rx d x' y') + sq (ry d x y) (ry d x' y') = sq x x' + sq y y' := by
  have h1 : d = 0 ∨ d = 1 ∨ d = 2 ∨ d = 3 := by omega
  unfold sq
  rcases h1 with rfl | rfl | rfl | rfl <;> simp [rx, ry, cs, sn] <;> grind
theorem dot_rot {d : Nat} (hd : d < 4) (x y x' y' : Int) : rx d x y * rx d x' y' + ry d x y * ry d x' y' = x * x' + y * y' := by
  have h1 : d = 0 ∨ d = 1 ∨ d = 2 ∨ d = 3 := by omega
  rcases h1 with rfl | rfl | rfl | rfl <;> simp [rx, ry, cs, sn] <;> grind
theorem sumN_turn {ρ : Int → Int → Int} (hρ : ∀ d, d < 4 → ∀ x y x' y', ρ (rx d x y) (rx d x' y') + ρ (ry d x y) (ry d x' y') = ρ x x' + ρ y y') {a b : List Int} {w : Nat} (hl : b.length = a.length) :
    ∀ k, 2 * k ≤ a.length → sumN ρ (turnL a w) (turnL b w) (2 * k) = sumN ρ a b (2 * k)
  | 0, _ => rfl
  | k + 1, h => by
    have ih := sumN_turn hρ (w := w) hl k (by omega)
    rw [show 2 * (k + 1) = 2 * k + 1 + 1 by omega]
    simp only [sumN]
    rw [ih, turnL_getD (by omega), turnL_getD (by omega), turnL_getD (by omega), turnL_getD (by omega)]
    by_cases hk : k < 31
    · rw [turnAt_even (by omega) hk, turnAt_even (by omega) hk, turnAt_odd (by omega) hk, turnAt_odd (by omega) hk]
      have := hρ _ (dg_lt w k) (a.getD (2 * k) 0) (a.getD (2 * k + 1) 0) (b.getD (2 * k) 0) (b.getD (2 * k + 1) 0)
      omega
    · rw [turnAt_out (by omega), turnAt_out (by omega), turnAt_out (by omega), turnAt_out (by omega)]
theorem sumN_turn_all {ρ : Int → Int → Int} (hρ : ∀ d, d < 4 → ∀ x y x' y', ρ (rx d x y) (rx d x' y') + ρ (ry d x y) (ry d x' y') = ρ x x' + ρ y y') {a b : List Int} {w : Nat} (hl : b.length = a.length) :
    sumN ρ (turnL a w) (turnL b w) a.length = sumN ρ a b a.length := by
  have h := sumN_turn hρ (w := w) hl (a.length / 2) (by omega)
  by_cases h2 : a.length % 2 = 0
  · rwa [show 2 * (a.length / 2) = a.length by omega] at h
  · rw [show a.length = 2 * (a.length / 2) + 1 by omega]
    simp only [sumN]
    rw [h, turnL_getD (by omega), turnL_getD (by omega), turnAt_out (by omega), turnAt_out (by omega)]
-- cut
theorem dg_shift (w p i : Nat) : dg (w / 4 ^ p) i = dg w (p + i) := by
  unfold dg; rw [Nat.div_div_eq_div_mul, ← Nat.pow_add]
theorem turn_cut {v : List Int} {w p : Nat} (hv : v.length ≤ 62) (hp : 2 * p < v.length) : turnL v w = turnL (v.take (2 * p)) w ++ turnL (v.drop (2 * p)) (w / 4 ^ p) := by
  refine ext_getD (d := 0) (by rw [List.length_append, turnL_length, turnL_length, turnL_length, List.length_take, List.length_drop]; omega) fun i hi => ?_
  rw [turnL_length] at hi
  have gt : ∀ j, j < 2 * p → (v.take (2 * p)).getD j 0 = v.getD j 0 := fun j hj => by simp [List.getD, List.getElem?_take, hj]
  have gd : ∀ j, (v.drop (2 * p)).getD j 0 = v.getD (2 * p + j) 0 := fun j => by simp [List.getD]
  have hlt : (v.take (2 * p)).length = 2 * p := by simp; omega
  have hld : (v.drop (2 * p)).length = v.length - 2 * p := by simp
  rw [turnL_getD hi]
  by_cases h : i < 2 * p
  · rw [show (turnL (v.take (2 * p)) w ++ turnL (v.drop (2 * p)) (w / 4 ^ p)).getD i 0 = (turnL (v.take (2 * p)) w).getD i 0 by
      simp only [List.getD]; rw [List.getElem?_append_left (by rw [turnL_length, hlt]; exact h)]]
    rw [turnL_getD (by rw [hlt]; exact h)]
    rcases turn_split v.length i with ⟨k, hk, hl, rfl | rfl⟩ | ho
    · rw [turnAt_even hl hk, turnAt_even (by omega) hk, gt _ (by omega), gt _ (by omega)]
    · rw [turnAt_odd hl hk, turnAt_odd (by omega) hk, gt _ (by omega), gt _ (by omega)]
    · omega
  · rw [show (turnL (v.take (2 * p)) w ++ turnL (v.drop (2 * p)) (w / 4 ^ p)).getD i 0 = (turnL (v.drop (2 * p)) (w / 4 ^ p)).getD (i - 2 * p) 0 by
      simp only [List.getD]; rw [List.getElem?_append_right (by rw [turnL_length, hlt]; omega), turnL_length, hlt]]
    rw [turnL_getD (by omega)]
    rcases turn_split v.length i with ⟨k, hk, hl, rfl | rfl⟩ | ho
    · rw [turnAt_even hl hk, show 2 * k - 2 * p = 2 * (k - p) by omega, turnAt_even (by omega) (by omega), gd, gd, dg_shift, show p + (k - p) = k by omega, show 2 * p + 2 * (k - p) = 2 * k by omega, show 2 * p + (2 * (k - p) + 1) = 2 * k + 1 by omega]
    · rw [turnAt_odd hl hk, show 2 * k + 1 - 2 * p = 2 * (k - p) + 1 by omega, turnAt_odd (by omega) (by omega), gd, gd, dg_shift, show p + (k - p) = k by omega, show 2 * p + 2 * (k - p) = 2 * k by omega, show 2 * p + (2 * (k - p) + 1) = 2 * k + 1 by omega]
    · rw [turnAt_out ho, turnAt_out (by omega), gd, show 2 * p + (i - 2 * p) = i by omega]
end Go.Proofs.Ytpkampecmlpfmaa.T
