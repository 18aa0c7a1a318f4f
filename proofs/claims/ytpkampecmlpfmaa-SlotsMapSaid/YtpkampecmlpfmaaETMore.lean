import Derived.Test.YtpkampecmlpfmaaLE
import Derived.Test.YtpkampecmlpfmaaETTurn
set_option linter.unusedSimpArgs false
set_option linter.unusedVariables false
/- Vectors turned back, and the chapter's example. -/
namespace Go.Proofs.Ytpkampecmlpfmaa.T
open Go Go.VL Go.Proofs
set_option maxRecDepth 100000
set_option maxHeartbeats 4000000
def backOut (v : List Int) (w : Int) : List Int := if turnErr v w = 0 then turnL v (notW w).toNat else []
theorem turnErr_not {v : List Int} {w : Int} (h : wayErr w = 0) : turnErr v (notW w) = turnErr v w := by
  have hw : 0 ≤ w ∧ w ≤ maxTwist := by
    unfold wayErr at h
    split at h
    · assumption
    · cases h
  have hn := notW_range w
  unfold turnErr
  by_cases hv : vecErr v = 0
  · rw [if_pos ⟨hv, hn⟩, if_pos ⟨hv, hw⟩]
  · rw [if_neg (fun h => hv h.1), if_neg (fun h => hv h.1)]
theorem backOut_not {v : List Int} {w : Int} (h : wayErr w = 0) : turnOut v (notW w) = backOut v w := by
  unfold turnOut backOut
  rw [turnErr_not h]
theorem turnErr_way {v : List Int} {w : Int} (h : wayErr w ≠ 0) : turnErr v w = 1 ∧ backOut v w = [] := by
  have : turnErr v w = 1 := turnErr_bad fun h' => h (way_even h'.2)
  exact ⟨this, by unfold backOut; rw [this]; rfl⟩
end Go.Proofs.Ytpkampecmlpfmaa.T
