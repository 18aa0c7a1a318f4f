import Derived.Test.YtfmeiapglpphpaaDoorDPLive
import Derived.Test.YtfmeiapglpphpaaDoorDPMath
set_option linter.unusedSimpArgs false
set_option linter.unusedVariables false
/- When numbers are put. -/
namespace Go.Proofs.YtfmeiapglpphpaaDoor.T
open Go Go.VL Go.Proofs
set_option maxRecDepth 100000
theorem octs_zero {n : Int} : octs 0 n = [] := rfl
theorem putErr_w {b l : List Int} {w : Int} (h : ¬ (1 ≤ w ∧ w ≤ 8)) : putErr b w l = 1 := by unfold putErr; rw [if_pos h]
theorem putErr_large {b l : List Int} {w : Int} (h : 1 ≤ w ∧ w ≤ 8) (h2 : l.all (putFit w) = false) : putErr b w l = 4 := by unfold putErr; rw [if_neg (by simpa using h), if_pos h2]
theorem putErr_long {b l : List Int} {w : Int} (h : 1 ≤ w ∧ w ≤ 8) (h2 : l.all (putFit w) = true) (h3 : 65536 < b.length + w * l.length) : putErr b w l = 3 := by
  have h4 : (l.length : Int) ≤ w * l.length := by have := Int.mul_le_mul_of_nonneg_right h.1 (Int.natCast_nonneg l.length); omega
  unfold putErr
  rw [if_neg (by simpa using h), if_neg (by simp [h2]), if_pos (by omega)]
theorem putErr_fine {b l : List Int} {w : Int} (h : 1 ≤ w ∧ w ≤ 8) (h2 : l.all (putFit w) = true) (h3 : b.length + w * l.length ≤ 65536) : putErr b w l = 0 := by
  have h4 : (l.length : Int) ≤ w * l.length := by have := Int.mul_le_mul_of_nonneg_right h.1 (Int.natCast_nonneg l.length); omega
  unfold putErr
  rw [if_neg (by simpa using h), if_neg (by simp [h2]), if_neg (by omega)]
theorem putRead_err {b l : List Int} {w : Int} (h : putErr b w l ≠ 0) : putRead b w l = [] := by unfold putRead; rw [if_neg h]
theorem putRead_fine {b l : List Int} {w : Int} (h : putErr b w l = 0) : putRead b w l = b ++ l.flatMap (octs w.toNat) := by unfold putRead; rw [if_pos h]; rfl
end Go.Proofs.YtfmeiapglpphpaaDoor.T
