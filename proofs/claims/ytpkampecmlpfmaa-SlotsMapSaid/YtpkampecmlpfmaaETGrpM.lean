import Derived.Test.YtpkampecmlpfmaaETWalk
set_option linter.unusedSimpArgs false
set_option linter.unusedVariables false
/- Ways, plainly. -/
namespace Go.Proofs.Ytpkampecmlpfmaa.T
open Go Go.VL Go.Proofs
theorem bothW_nat (a b : Int) : (bothW a b).toNat = mapW add4 31 a.toNat b.toNat := by unfold bothW; rw [Int.toNat_natCast]
theorem notW_nat (a : Int) : (notW a).toNat = mapW neg4 31 a.toNat 0 := by unfold notW; rw [Int.toNat_natCast]
theorem dg_both {a b : Int} {i : Nat} (h : i < 31) : dg (bothW a b).toNat i = (dg a.toNat i + dg b.toNat i) % 4 := by rw [bothW_nat, dg_mapW _ _ _ _ _ h]; rfl
theorem dg_not {a : Int} {i : Nat} (h : i < 31) : dg (notW a).toNat i = (4 - dg a.toNat i) % 4 := by rw [notW_nat, dg_mapW _ _ _ _ _ h]; rfl
theorem dg_zero_l (i : Nat) : dg 0 i = 0 := by simp [dg]
theorem way_ext {a b : Int} (ha : 0 ≤ a ∧ a ≤ maxTwist) (hb : 0 ≤ b ∧ b ≤ maxTwist) (h : ∀ i, i < 31 → dg a.toNat i = dg b.toNat i) : a = b := by
  have : a.toNat = b.toNat := dg_ext 31 (by rw [pow31]; unfold maxTwist at ha; omega) (by rw [pow31]; unfold maxTwist at hb; omega) h
  omega
theorem zero_way : (0 : Int) ≤ 0 ∧ (0 : Int) ≤ maxTwist := by decide
theorem both_comm (a b : Int) : bothW a b = bothW b a := way_ext (bothW_range a b) (bothW_range b a) fun i hi => by rw [dg_both hi, dg_both hi, Nat.add_comm]
theorem both_assoc (a b c : Int) : bothW (bothW a b) c = bothW a (bothW b c) := way_ext (bothW_range _ _) (bothW_range _ _) fun i hi => by
  rw [dg_both hi, dg_both hi, dg_both hi, dg_both hi]; omega
theorem both_not (a : Int) : bothW a (notW a) = 0 := way_ext (bothW_range _ _) zero_way fun i hi => by
  have := dg_lt a.toNat i
  rw [dg_both hi, dg_not hi]; simp only [Int.toNat_zero, dg_zero_l]; omega
theorem both_four (a : Int) : bothW (bothW a a) (bothW a a) = 0 := way_ext (bothW_range _ _) zero_way fun i hi => by
  rw [dg_both hi, dg_both hi]; simp only [Int.toNat_zero, dg_zero_l]; omega
theorem both_zero {a : Int} (ha : 0 ≤ a ∧ a ≤ maxTwist) : bothW a 0 = a := way_ext (bothW_range _ _) ha fun i hi => by
  have := dg_lt a.toNat i
  rw [dg_both hi]; simp only [Int.toNat_zero, dg_zero_l]; omega
theorem way_zero : wayErr 0 = 0 := by decide
theorem way_both (a b : Int) : wayErr (bothW a b) = 0 := way_even (bothW_range a b)
theorem way_not (a : Int) : wayErr (notW a) = 0 := way_even (notW_range a)
end Go.Proofs.Ytpkampecmlpfmaa.T
