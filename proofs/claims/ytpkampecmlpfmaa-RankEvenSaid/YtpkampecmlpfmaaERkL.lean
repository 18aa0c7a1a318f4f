import Derived.Test.YtpkampecmlpfmaaERkM
set_option linter.unusedSimpArgs false
set_option linter.unusedVariables false
/- Laws on cuts and counts, plainly. -/
namespace Go.Proofs.Ytpkampecmlpfmaa.T
open Go Go.VL Go.Proofs
theorem in_span2 {c : List Int} {n : Nat} {x : Int} (h : cutsErr c = 0) (hn : n ≤ c.length) (hx : -32767 ≤ x ∧ x ≤ 32767) : (lowOf c n ≤ x ∧ x ≤ highOf c n) ↔ cellOf c x = n := by
  have hs := fun i hi => cellOf_spec (cutsErr_zero.1 h).2.1 x i hi
  have hle := cellOf_le c x
  unfold lowOf highOf
  constructor
  · rintro ⟨h1, h2⟩
    by_cases a : 0 < n
    · rw [if_pos a] at h1
      have := (hs (n - 1) (by omega)).1 h1
      by_cases b : n < c.length
      · rw [if_pos b] at h2
        have : ¬ n < cellOf c x := fun q => by have := (hs n b).2 q; omega
        omega
      · omega
    · by_cases b : n < c.length
      · rw [if_pos b] at h2
        have : ¬ n < cellOf c x := fun q => by have := (hs n b).2 q; omega
        omega
      · omega
  · intro e
    constructor
    · split
      · exact (hs (n - 1) (by omega)).2 (by omega)
      · omega
    · split
      · have : ¬ c.getD n 0 ≤ x := fun q => by have := (hs n (by omega)).1 q; omega
        omega
      · omega
theorem cntL_add {c l m : List Int} {i : Nat} (h : i < c.length + 1) : (cntL c (l ++ m)).getD i 0 = (cntL c l).getD i 0 + (cntL c m).getD i 0 := by
  rw [cntL_at h, cntL_at h, cntL_at h, List.countP_append]; omega
def sumTo (l : List Int) : Nat → Int
  | 0 => 0
  | k + 1 => sumTo l k + l.getD k 0
theorem sumTo_cnt {c : List Int} : ∀ (l : List Int), ∀ k, k ≤ c.length + 1 → sumTo (cntL c l) k = ((l.countP fun x => decide (cellOf c x < k) : Nat) : Int) := by
  intro l k
  induction k with
  | zero => intro _; simp [sumTo]
  | succ k ih =>
    intro hk
    rw [sumTo, ih (by omega), cntL_at (by omega)]
    clear ih
    induction l with
    | nil => simp
    | cons x l ih =>
      simp only [List.countP_cons]
      by_cases h1 : cellOf c x < k
      · have h2 : cellOf c x < k + 1 := by omega
        have h3 : (cellOf c x == k) = false := beq_eq_false_iff_ne.2 (by omega)
        simp only [h1, h2, h3, decide_true, if_true, Bool.false_eq_true, if_false]
        omega
      · by_cases h2 : cellOf c x = k
        · have h3 : cellOf c x < k + 1 := by omega
          have h4 : (cellOf c x == k) = true := beq_iff_eq.2 h2
          simp only [h1, h3, h4, decide_true, decide_false, if_true, Bool.false_eq_true, if_false]
          omega
        · have h3 : ¬ cellOf c x < k + 1 := by omega
          have h4 : (cellOf c x == k) = false := beq_eq_false_iff_ne.2 h2
          simp only [h1, h3, h4, decide_false, if_false, Bool.false_eq_true]
          omega
theorem sumTo_all {c l : List Int} : sumTo (cntL c l) (c.length + 1) = l.length := by
  rw [sumTo_cnt l _ (Nat.le_refl _)]
  congr 1
  rw [List.countP_eq_length]
  intro x _
  have := cellOf_le c x
  simp; omega
theorem sumTo_bound {c l : List Int} {k : Nat} (h : k ≤ c.length + 1) : 0 ≤ sumTo (cntL c l) k ∧ sumTo (cntL c l) k ≤ l.length := by
  rw [sumTo_cnt l _ h]
  have := List.countP_le_length (p := fun x => decide (cellOf c x < k)) (l := l)
  omega
theorem cntE_append {c l m : List Int} (hl : l.length ≤ 600) (hm : m.length ≤ 600) : cntE c (l ++ m) = 0 ↔ cntE c l = 0 ∧ cntE c m = 0 := by
  have e : ∀ z : List Int, z.length ≤ 1200 → (cntE c z = 0 ↔ cutsErr c = 0 ∧ z.any oddB = false) := fun z hz => by
    unfold cntE
    rw [if_neg (by omega)]
    by_cases h : cutsErr c ≠ 0 ∨ z.any oddB = true
    · rw [if_pos h]
      constructor
      · intro q; cases q
      · rintro ⟨q1, q2⟩
        rcases h with h | h
        · exact absurd q1 h
        · rw [q2] at h; cases h
    · rw [if_neg h]
      refine ⟨fun _ => ⟨Classical.byContradiction fun q => h (.inl q), ?_⟩, fun _ => rfl⟩
      cases q : z.any oddB with
      | false => rfl
      | true => exact absurd (.inr q) h
  rw [e _ (by rw [List.length_append]; omega), e l (by omega), e m (by omega), List.any_append, Bool.or_eq_false_iff]
  constructor
  · rintro ⟨a, b, c⟩; exact ⟨⟨a, b⟩, a, c⟩
  · rintro ⟨⟨a, b⟩, _, c⟩; exact ⟨a, b, c⟩
theorem rkE_twice {l : List Int} {n : Int} (hn : 1 ≤ n ∧ n ≤ 8) : rkE l (2 * n) = rkE l n := by
  unfold rkE
  have e : (¬ (1 ≤ 2 * n ∧ 2 * n ≤ 16) ∨ l.any oddB = true) ↔ (¬ (1 ≤ n ∧ n ≤ 16) ∨ l.any oddB = true) := by
    constructor <;> rintro (h | h) <;> first | exact .inr h | (exfalso; omega)
  by_cases h : ¬ (1 ≤ n ∧ n ≤ 16) ∨ l.any oddB = true
  · rw [if_pos h, if_pos (e.2 h)]
  · rw [if_neg h, if_neg (fun q => h (e.1 q))]
theorem cutsL_twice {l : List Int} {n i : Nat} (h : i < n - 1) : (cutsL l (2 * n)).getD (2 * i + 1) 0 = (cutsL l n).getD i 0 := by
  rw [cutsL_at (by omega), cutsL_at h]
  congr 1
  rw [show 2 * i + 1 + 1 = 2 * (i + 1) by omega, Nat.mul_assoc, Nat.mul_div_mul_left _ _ (by decide)]
theorem cell_mono {c : List Int} {x y : Int} (h : x ≤ y) : cellOf c x ≤ cellOf c y := by
  unfold cellOf
  refine List.countP_mono_left fun z _ hz => ?_
  simp only [decide_eq_true_eq] at *
  omega
end Go.Proofs.Ytpkampecmlpfmaa.T
