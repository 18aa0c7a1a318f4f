import Derived.Test.YtpkampecmlpfmaaLE
import Derived.Test.YtpkampecmlpfmaaEGSpec
set_option linter.unusedSimpArgs false
set_option linter.unusedVariables false
/- Places of a vector at a code's box, walked. -/
namespace Go.Proofs.Ytpkampecmlpfmaa.T
open Go Go.VL Go.Proofs
set_option maxRecDepth 100000
set_option maxHeartbeats 4000000
def gaugeErr (w : Int) (cuts : List (List Int)) (code q : List Int) : Int := if codeErr w cuts q ≠ 0 then 1 else boxErr w cuts code
def placeAt (u L H : List Int) (i : Nat) : Place := (u.getD i 0, L.getD i 0, H.getD i 0)
def placesL (u L H : List Int) : List Place := (List.range u.length).map (placeAt u L H)
def placesOut (w : Int) (cuts : List (List Int)) (code q : List Int) : List Place := if gaugeErr w cuts code q = 0 then placesL (turnL q w.toNat) (boxL cuts code) (boxH cuts code) else []
theorem placesL_length {u L H : List Int} : (placesL u L H).length = u.length := by simp [placesL]
theorem placesL_getD {u L H : List Int} {i : Nat} {d : Place} (h : i < u.length) : (placesL u L H).getD i d = placeAt u L H i := getD_map_range h
theorem gauge_ok {w : Int} {cuts : List (List Int)} {code q : List Int} (hc : Octets code) (h : gaugeErr w cuts code q = 0) : codeErr w cuts q = 0 ∧ boxErr w cuts code = 0 ∧ code.length = q.length := by
  unfold gaugeErr at h
  by_cases h1 : codeErr w cuts q = 0
  · rw [if_neg (by simpa using h1)] at h
    have := (box_facts hc h).len
    exact ⟨h1, h, by rw [this, (codeErr_zero.1 h1).2.2]⟩
  · rw [if_pos h1] at h; cases h
theorem places_fill {u L H : List Int} : fill (placeAt u L H) (List.replicate u.length (0, 0, 0)) u.length = placesL u L H := by
  have := fill_all (f := placeAt u L H) (a := List.replicate u.length (0, 0, 0))
  rw [List.length_replicate] at this
  exact this
end Go.Proofs.Ytpkampecmlpfmaa.T
