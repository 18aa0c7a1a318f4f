import Derived.Test.YtfmeiapglpphpaaGSq
set_option linter.unusedSimpArgs false
set_option linter.unusedVariables false
/- How far a code may be, plainly. -/
namespace Go.Proofs.Ytfmeiapglpphpaa.T
open Go Go.VL Go.Proofs
theorem sq_mono {a b : Int} (h0 : 0 ≤ a) (h : a ≤ b ∨ a ≤ -b) : a * a ≤ b * b := by
  rcases h with h | h
  · exact Int.mul_le_mul h h h0 (by omega)
  · have := Int.mul_le_mul h h h0 (by omega)
    rwa [Int.neg_mul_neg] at this
theorem far_le {x lo hi y : Int} (h1 : lo ≤ y) (h2 : y ≤ hi) : far x lo hi * far x lo hi ≤ sq y x := by
  have h0 : 0 ≤ far x lo hi := by unfold far mx; repeat' split <;> omega
  refine sq_mono h0 ?_
  unfold far mx
  repeat' split
  all_goals omega
theorem most_ge {x lo hi y : Int} (h1 : lo ≤ y) (h2 : y ≤ hi) : sq y x ≤ most x lo hi * most x lo hi := by
  have key : (y - x) ≤ most x lo hi ∧ -(y - x) ≤ most x lo hi := by
    unfold most mx
    constructor <;> (repeat' split) <;> omega
  unfold sq
  by_cases q : 0 ≤ y - x
  · exact sq_mono q (.inl key.1)
  · have := sq_mono (a := -(y - x)) (b := most x lo hi) (by omega) (.inl key.2)
    rwa [Int.neg_mul_neg] at this
theorem sqP_le {ρ : Int → Int → Int → Int} {l : List Place} {a b : List Int} {n : Nat} (h : ∀ k, k < n → ruleP ρ (l.getD k (0, 0, 0)) * ruleP ρ (l.getD k (0, 0, 0)) ≤ sq (a.getD k 0) (b.getD k 0)) : ∀ k, k ≤ n → sqP ρ l k ≤ sumN sq a b k
  | 0, _ => by simp [sqP, sumN]
  | k + 1, hk => by
    have := sqP_le h k (by omega)
    have := h k (by omega)
    rw [sqP, sumN]; omega
theorem sqP_ge {ρ : Int → Int → Int → Int} {l : List Place} {a b : List Int} {n : Nat} (h : ∀ k, k < n → sq (a.getD k 0) (b.getD k 0) ≤ ruleP ρ (l.getD k (0, 0, 0)) * ruleP ρ (l.getD k (0, 0, 0))) : ∀ k, k ≤ n → sumN sq a b k ≤ sqP ρ l k
  | 0, _ => by simp [sqP, sumN]
  | k + 1, hk => by
    have := sqP_ge h k (by omega)
    have := h k (by omega)
    rw [sqP, sumN]; omega
theorem sqP_nonneg {ρ : Int → Int → Int → Int} {l : List Place} : ∀ k, 0 ≤ sqP ρ l k
  | 0 => by simp [sqP]
  | k + 1 => by
    have h1 := sqP_nonneg (ρ := ρ) (l := l) k
    have h2 : 0 ≤ ruleP ρ (l.getD k (0, 0, 0)) * ruleP ρ (l.getD k (0, 0, 0)) := by
      by_cases q : 0 ≤ ruleP ρ (l.getD k (0, 0, 0))
      · exact Int.mul_nonneg q q
      · have := Int.mul_nonneg (a := -ruleP ρ (l.getD k (0, 0, 0))) (b := -ruleP ρ (l.getD k (0, 0, 0))) (by omega) (by omega)
        rwa [Int.neg_mul_neg] at this
    rw [sqP]; omega
/-- Between what a code of v lies, of each q that goes with it. -/
theorem below_all {w : Int} {cuts : List (List Int)} {v q : List Int} (hv : I16s v) (hq : I16s q) (h : codeErr w cuts v = 0) (hp : pairErr v q = 0) :
    gaugeErr w cuts (codeOut w cuts v) q = 0 ∧ gLow w cuts (codeOut w cuts v) q ≤ dist v q ∧ dist v q ≤ gHigh w cuts (codeOut w cuts v) q ∧ 0 ≤ gLow w cuts (codeOut w cuts v) q := by
  obtain ⟨b0, bf, bl, bi⟩ := own_box hv h
  obtain ⟨h1, h2, h3⟩ := codeErr_zero.1 h
  obtain ⟨p1, p2, p3⟩ := pairErr_zero.1 hp
  have hcq : codeErr w cuts q = 0 := codeErr_zero.2 ⟨h1, vecErr_zero.2 p2, by omega⟩
  have hg : gaugeErr w cuts (codeOut w cuts v) q = 0 := by unfold gaugeErr; rw [if_neg (by simpa using hcq)]; exact b0
  have hul := turnL_length (v := q) (w := w.toNat)
  have hpl : placesOut w cuts (codeOut w cuts v) q = placesL (turnL q w.toNat) (boxL cuts (codeOut w cuts v)) (boxH cuts (codeOut w cuts v)) := by unfold placesOut; rw [if_pos hg]
  have hd : dist v q = sumN sq (turnL v w.toNat) (turnL q w.toNat) v.length := by
    have e : dist v q = sumN sq v q v.length := sumOf_ok hp
    rw [e]
    exact (sumN_turn_all (fun d hd x y x' y' => sq_rot hd x y x' y') p3.symm).symm
  have hk : ∀ k, k < v.length → (placesL (turnL q w.toNat) (boxL cuts (codeOut w cuts v)) (boxH cuts (codeOut w cuts v))).getD k (0, 0, 0) = ((turnL q w.toNat).getD k 0, lowAt cuts (codeOut w cuts v) k, highAt cuts (codeOut w cuts v) k) := by
    intro k hk
    rw [placesL_getD (by omega)]
    unfold placeAt
    rw [(boxL_get (by omega)).1, (boxL_get (by omega)).2]
  refine ⟨hg, ?_, ?_, sqP_nonneg _⟩
  · unfold gLow
    rw [hpl, placesL_length, hul, hd, ← p3]
    refine sqP_le (n := v.length) (fun k hkl => ?_) _ (Nat.le_refl _)
    rw [hk k hkl]
    exact far_le (bi k hkl).1 (bi k hkl).2
  · unfold gHigh
    rw [hpl, placesL_length, hul, hd, ← p3]
    refine sqP_ge (n := v.length) (fun k hkl => ?_) _ (Nat.le_refl _)
    rw [hk k hkl]
    exact most_ge (bi k hkl).1 (bi k hkl).2
end Go.Proofs.Ytfmeiapglpphpaa.T
