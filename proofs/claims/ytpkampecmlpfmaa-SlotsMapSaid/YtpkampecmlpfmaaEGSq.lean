import Derived.Test.YtpkampecmlpfmaaLE
import Derived.Test.YtpkampecmlpfmaaEGPlace
set_option linter.unusedSimpArgs false
set_option linter.unusedVariables false
/- The least and the greatest distance, walked. -/
namespace Go.Proofs.Ytpkampecmlpfmaa.T
open Go Go.VL Go.Proofs
set_option maxRecDepth 100000
set_option maxHeartbeats 4000000
def ruleP (ρ : Int → Int → Int → Int) (p : Place) : Int := ρ p.1 p.2.1 p.2.2
def sqP (ρ : Int → Int → Int → Int) (l : List Place) : Nat → Int
  | 0 => 0
  | k + 1 => sqP ρ l k + ruleP ρ (l.getD k (0, 0, 0)) * ruleP ρ (l.getD k (0, 0, 0))
def PlaceOk (p : Place) : Prop := (-32768 ≤ p.1 ∧ p.1 ≤ 32767) ∧ (-32768 ≤ p.2.1 ∧ p.2.1 ≤ 32767) ∧ (-32768 ≤ p.2.2 ∧ p.2.2 ≤ 32767)
theorem places_ok {w : Int} {cuts : List (List Int)} {code q : List Int} (hc : Octets code) (hq : I16s q) (hr : I16r cuts) : (placesOut w cuts code q).length ≤ 64 ∧ ∀ p ∈ placesOut w cuts code q, PlaceOk p := by
  unfold placesOut
  split
  · rename_i h
    obtain ⟨e1, e2, e3⟩ := gauge_ok hc h
    obtain ⟨b1, b2, b3⟩ := codeErr_zero.1 e1
    have hqt := (turnL_ok hq (vecErr_zero.1 b2) w.toNat).2
    have hul := turnL_length (v := q) (w := w.toNat)
    have hq64 := (vecOk_iff.1 (vecErr_zero.1 b2)).2.1
    refine ⟨by rw [placesL_length]; omega, fun p hp => ?_⟩
    obtain ⟨i, hi, rfl⟩ := List.mem_map.1 hp
    rw [List.mem_range] at hi
    have := box_range hr (box_facts hc e2) (i := i) (by omega)
    exact ⟨hqt.getD i, by show -32768 ≤ (boxL cuts code).getD i 0 ∧ (boxL cuts code).getD i 0 ≤ 32767; omega, by show -32768 ≤ (boxH cuts code).getD i 0 ∧ (boxH cuts code).getD i 0 ≤ 32767; omega⟩
  · exact ⟨by simp, fun p hp => by cases hp⟩
theorem sqP_bound {ρ : Int → Int → Int → Int} {l : List Place} (h : ∀ k, k < l.length → 0 ≤ ruleP ρ (l.getD k (0, 0, 0)) ∧ ruleP ρ (l.getD k (0, 0, 0)) ≤ 65536) : ∀ k, k ≤ l.length → 0 ≤ sqP ρ l k ∧ sqP ρ l k ≤ k * 4294967296
  | 0, _ => by simp [sqP]
  | k + 1, hk => by
    have ih := sqP_bound h k (by omega)
    obtain ⟨h1, h2⟩ := h k (by omega)
    have h3 : 0 ≤ ruleP ρ (l.getD k (0, 0, 0)) * ruleP ρ (l.getD k (0, 0, 0)) := Int.mul_nonneg h1 h1
    have h4 : ruleP ρ (l.getD k (0, 0, 0)) * ruleP ρ (l.getD k (0, 0, 0)) ≤ 65536 * 65536 := Int.mul_le_mul h2 h2 h1 (by omega)
    rw [sqP]
    omega
theorem far_range {p : Place} (h : PlaceOk p) : 0 ≤ ruleP far p ∧ ruleP far p ≤ 65536 := by
  obtain ⟨h1, h2, h3⟩ := h
  unfold ruleP far mx
  repeat' split
  all_goals omega
theorem most_range {p : Place} (h : PlaceOk p) : 0 ≤ ruleP most p ∧ ruleP most p ≤ 65536 := by
  obtain ⟨h1, h2, h3⟩ := h
  unfold ruleP most mx
  repeat' split
  all_goals omega
def gLow (w : Int) (cuts : List (List Int)) (code q : List Int) : Int := sqP far (placesOut w cuts code q) (placesOut w cuts code q).length
def gHigh (w : Int) (cuts : List (List Int)) (code q : List Int) : Int := sqP most (placesOut w cuts code q) (placesOut w cuts code q).length
end Go.Proofs.Ytpkampecmlpfmaa.T
