import Derived.Test.YtfmeiapglpphpaaDoorDASpec
import Derived.Test.YtfmeiapglpphpaaDoorDPMath
/- What is asked as a text, plainly. -/
namespace Go.Proofs.YtfmeiapglpphpaaDoor.T
open Go Go.VL Go.Proofs
def askHead (k id n seed : Int) : List Int := if shI k = 4 then putOut [k] 4 [id] else if shK k = 2 then putOut [k] 2 [n] else if shS k = 8 then putOut [k] 8 [seed] else [k]
def askText (k id n seed : Int) (v : List Int) : List Int := askHead k id n seed ++ (if shV k then v.flatMap (octs 2) else [])
def askOut (k id n seed : Int) (v : List Int) (dim slots : Int) : List Int := if askErr k id n seed v dim slots = 0 then askText k id n seed v else []
theorem askErr_ok {k id n seed : Int} {v : List Int} {dim slots : Int} (h : askErr k id n seed v dim slots = 0) : askOk k id n seed v dim slots := by
  by_cases q : askOk k id n seed v dim slots
  · exact q
  · unfold askErr at h; rw [if_neg q] at h; cases h
theorem askErr_bad {k id n seed : Int} {v : List Int} {dim slots : Int} (h : askErr k id n seed v dim slots ≠ 0) : askErr k id n seed v dim slots = 1 := by
  unfold askErr at *; split at h
  · exact absurd rfl h
  · rename_i q; exact if_neg q
theorem put1_err {k w x : Int} (hw : 1 ≤ w ∧ w ≤ 8) (hx : -9223372036854775808 ≤ x ∧ x ≤ 9223372036854775807) (h : -(2 ^ (8 * w.toNat - 1)) ≤ x ∧ x < 2 ^ (8 * w.toNat - 1)) : putErr [k] w [x] = 0 := by
  obtain ⟨w, rfl⟩ := Int.eq_ofNat_of_zero_le (show 0 ≤ w by omega)
  have hf : putFit w x = true := (putFit_iff hx (by omega)).2 (by simpa using h)
  unfold putErr
  rw [if_neg (by omega), if_neg (by simp [hf]), if_neg (by simp; omega)]
theorem put1_len {k w x : Int} (_ : 0 ≤ w) : (putOut [k] w [x]).length = w.toNat + 1 := by
  simp [putOut, octs_length]
theorem fit_id {k id : Int} (h : shI k = 4) (hn : namedP id (shI k) 0 2147483647) : putErr [k] 4 [id] = 0 := by
  unfold namedP at hn
  rw [h, if_neg (by decide)] at hn
  exact put1_err (by decide) (by omega) (by
    have : (2 : Int) ^ (8 * (4 : Int).toNat - 1) = 2147483648 := by decide
    rw [this]; omega)
theorem fit_n {k n slots : Int} (h : shK k = 2) (hn : namedP n (shK k) 1 slots) (hs : slots ≤ 256) : putErr [k] 2 [n] = 0 := by
  unfold namedP at hn
  rw [h, if_neg (by decide)] at hn
  exact put1_err (by decide) (by omega) (by
    have : (2 : Int) ^ (8 * (2 : Int).toNat - 1) = 32768 := by decide
    rw [this]; omega)
theorem fit_seed {k seed : Int} (h : shS k = 8) (hn : namedP seed (shS k) 0 9223372036854775807) : putErr [k] 8 [seed] = 0 := by
  unfold namedP at hn
  rw [h, if_neg (by decide)] at hn
  exact put1_err (by decide) (by omega) (by
    have : (2 : Int) ^ (8 * (8 : Int).toNat - 1) = 9223372036854775808 := by decide
    rw [this]; omega)
end Go.Proofs.YtfmeiapglpphpaaDoor.T
