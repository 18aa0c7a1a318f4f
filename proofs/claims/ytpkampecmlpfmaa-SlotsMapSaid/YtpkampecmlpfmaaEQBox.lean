import Derived.Test.YtpkampecmlpfmaaLE
import Derived.Test.YtpkampecmlpfmaaEQCode
set_option linter.unusedSimpArgs false
set_option linter.unusedVariables false
/- Boxes, walked. -/
namespace Go.Proofs.Ytpkampecmlpfmaa.T
open Go Go.VL Go.Proofs
set_option maxRecDepth 100000
set_option maxHeartbeats 4000000
def lowAt (cuts : List (List Int)) (code : List Int) (i : Nat) : Int := spanLow (cuts.getD i []) (code.getD i 0)
def highAt (cuts : List (List Int)) (code : List Int) (i : Nat) : Int := spanHigh (cuts.getD i []) (code.getD i 0)
def boxL (cuts : List (List Int)) (code : List Int) : List Int := (List.range code.length).map (lowAt cuts code)
def boxH (cuts : List (List Int)) (code : List Int) : List Int := (List.range code.length).map (highAt cuts code)
def boxLow (w : Int) (cuts : List (List Int)) (code : List Int) : List Int := if boxErr w cuts code = 0 then boxL cuts code else []
def boxHigh (w : Int) (cuts : List (List Int)) (code : List Int) : List Int := if boxErr w cuts code = 0 then boxH cuts code else []
theorem fill_map {f : Nat → Int} {n : Nat} : fill f (List.replicate n 0) n = (List.range n).map f := by
  have := fill_all (f := f) (a := List.replicate n 0)
  rw [List.length_replicate] at this
  exact this
theorem box_bad {w : Int} {cuts : List (List Int)} {code : List Int} {e : Int} (h : boxErr w cuts code = e) (he : e ≠ 0) : boxLow w cuts code = [] ∧ boxHigh w cuts code = [] := by
  unfold boxLow boxHigh
  rw [h, if_neg he, if_neg he]; exact ⟨rfl, rfl⟩
theorem box_ok {w : Int} {cuts : List (List Int)} {code : List Int} (h : boxErr w cuts code = 0) : boxLow w cuts code = boxL cuts code ∧ boxHigh w cuts code = boxH cuts code := by
  unfold boxLow boxHigh
  rw [if_pos h, if_pos h]; exact ⟨rfl, rfl⟩
theorem span_or {c : List Int} {n : Int} (h : cutsErr c = 0) (h1 : 0 ≤ n) (h2 : n ≤ c.length) : spanErr c n = 0 ∨ spanErr c n = 5 := by
  rw [span_ok h h1 h2]; split <;> simp
end Go.Proofs.Ytpkampecmlpfmaa.T
