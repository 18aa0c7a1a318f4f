import Derived.Test.YtpkampecmlpfmaaEQSpec
import Derived.Test.YtpkampecmlpfmaaESoM6
set_option linter.unusedSimpArgs false
set_option linter.unusedVariables false
/- Where a list is cut, and how many are in each cell, plainly. -/
namespace Go.Proofs.Ytpkampecmlpfmaa.T
open Go Go.VL Go.Proofs
def oddB (x : Int) : Bool := decide (x < -32767)
def cutsL (l : List Int) (cells : Nat) : List Int := (List.range (cells - 1)).map fun i => (sortI l).getD ((i + 1) * l.length / cells) 0
def rkE (l : List Int) (cells : Int) : Int := if 4096 < l.length then 3 else if ¬ (1 ≤ cells ∧ cells ≤ 16) ∨ l.any oddB = true then 1 else if l.length = 0 then 5 else 0
def rkOut (l : List Int) (cells : Int) : List Int := if rkE l cells = 0 then cutsL l cells.toNat else []
theorem rkE_zero {l : List Int} {cells : Int} : rkE l cells = 0 ↔ l.length ≤ 4096 ∧ (1 ≤ cells ∧ cells ≤ 16) ∧ l.any oddB = false ∧ 1 ≤ l.length := by
  unfold rkE
  by_cases h1 : 4096 < l.length
  · rw [if_pos h1]; constructor
    · intro q; cases q
    · intro q; omega
  · rw [if_neg h1]
    by_cases h2 : ¬ (1 ≤ cells ∧ cells ≤ 16) ∨ l.any oddB = true
    · rw [if_pos h2]; constructor
      · intro q; cases q
      · rintro ⟨_, q1, q2, _⟩
        rcases h2 with h2 | h2
        · exact absurd q1 h2
        · rw [q2] at h2; cases h2
    · rw [if_neg h2]
      have h3 : (1 ≤ cells ∧ cells ≤ 16) ∧ l.any oddB = false := ⟨Classical.byContradiction fun q => h2 (.inl q), by
        cases e : l.any oddB with
        | false => rfl
        | true => exact absurd (.inr e) h2⟩
      by_cases h4 : l.length = 0
      · rw [if_pos h4]; constructor
        · intro q; cases q
        · intro q; omega
      · rw [if_neg h4]; exact ⟨fun _ => ⟨by omega, h3.1, h3.2, by omega⟩, fun _ => rfl⟩
theorem sortI_length (l : List Int) : (sortI l).length = l.length := (sortI_perm l).length_eq
theorem cutsL_length {l : List Int} {n : Nat} : (cutsL l n).length = n - 1 := by simp [cutsL]
theorem cutsL_at {l : List Int} {n i : Nat} (h : i < n - 1) : (cutsL l n).getD i 0 = (sortI l).getD ((i + 1) * l.length / n) 0 := by
  simp [cutsL, List.getD, h]
theorem cutsL_idx {l : List Int} {n i : Nat} (h : i < n - 1) (hl : 1 ≤ l.length) : (i + 1) * l.length / n < l.length := by
  rw [Nat.div_lt_iff_lt_mul (by omega), Nat.mul_comm]
  exact Nat.mul_lt_mul_of_pos_left (by omega) (by omega)
/-- How many are in each cell. -/
def cntL (c l : List Int) : List Int := (List.range (c.length + 1)).map fun i => ((l.countP fun x => cellOf c x == i : Nat) : Int)
theorem cntL_length {c l : List Int} : (cntL c l).length = c.length + 1 := by simp [cntL]
theorem cntL_at {c l : List Int} {i : Nat} (h : i < c.length + 1) : (cntL c l).getD i 0 = ((l.countP fun x => cellOf c x == i : Nat) : Int) := by simp [cntL, List.getD, h]
theorem cntL_nil {c : List Int} : cntL c [] = List.replicate (c.length + 1) 0 := by
  apply List.ext_getElem
  · simp [cntL]
  · intro i h1 h2; simp [cntL]
theorem cntL_snoc {c l : List Int} {x : Int} : (cntL c l).set (cellOf c x) ((cntL c l).getD (cellOf c x) 0 + 1) = cntL c (l ++ [x]) := by
  have hc := cellOf_le c x
  apply List.ext_getElem
  · simp [cntL]
  · intro i h1 h2
    have hi : i < c.length + 1 := by simpa [cntL] using h2
    rw [List.getElem_set]
    by_cases e : cellOf c x = i
    · rw [if_pos e, e, cntL_at hi]
      simp [cntL, List.countP_append, List.countP_cons, e]
    · rw [if_neg e]
      simp [cntL, List.countP_append, List.countP_cons, e]
def cntE (c l : List Int) : Int := if 4096 < l.length then 3 else if cutsErr c ≠ 0 ∨ l.any oddB = true then 1 else 0
def cntOut (c l : List Int) : List Int := if cntE c l = 0 then cntL c l else []
end Go.Proofs.Ytpkampecmlpfmaa.T
