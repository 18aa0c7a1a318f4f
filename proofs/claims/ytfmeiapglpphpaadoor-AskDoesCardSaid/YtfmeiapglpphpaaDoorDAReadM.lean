import Derived.Test.YtfmeiapglpphpaaDoorDAText
/- What is asked, read, plainly. -/
namespace Go.Proofs.YtfmeiapglpphpaaDoor.T
open Go Go.VL Go.Proofs
def readW (k : Int) : Int := if shI k = 4 then 4 else if shK k = 2 then 2 else if shS k = 8 then 8 else 0
/-- What stands behind the kind and the number. -/
def tailOf (b : List Int) : List Int := (b.drop 1).drop (readW (b.getD 0 0)).toNat
def numOf (b : List Int) : Int := takeNum (readW (b.getD 0 0)) (b.drop 1)
def rId (b : List Int) : Int := if shI (b.getD 0 0) = 4 then numOf b else 0
def rK (b : List Int) : Int := if shK (b.getD 0 0) = 2 then numOf b else 0
def rSeed (b : List Int) : Int := if shS (b.getD 0 0) = 8 then numOf b else 0
def rV (b : List Int) : List Int := takeNums 2 ((tailOf b).length / 2) (tailOf b)
def formOf (b : List Int) : Prop := 1 ≤ b.length ∧ kindOk (b.getD 0 0) ∧ (readW (b.getD 0 0)).toNat ≤ (b.drop 1).length ∧ (tailOf b).length % 2 = 0 ∧ (tailOf b).length ≤ 128 ∧ (shV (b.getD 0 0) = decide (0 < (tailOf b).length))
instance (b : List Int) : Decidable (formOf b) := by unfold formOf; infer_instance
def readErr (b : List Int) (dim slots : Int) : Int :=
  if ¬ sizesOk dim slots then 1 else if ¬ formOf b then 2 else askErr (b.getD 0 0) (rId b) (rK b) (rSeed b) (rV b) dim slots
theorem take1_err {b : List Int} {w : Int} (h : 1 ≤ w ∧ w ≤ 8) : takeErr b w 1 = if b.length < w.toNat then 2 else 0 := by
  unfold takeErr
  rw [if_neg (by omega)]
  by_cases q : b.length < w.toNat
  · rw [if_pos q, if_pos (by omega)]
  · rw [if_neg q, if_neg (by omega)]
theorem read_bad {b : List Int} {dim slots : Int} (h : sizesOk dim slots) (hf : ¬ formOf b) : readErr b dim slots = 2 := by
  unfold readErr; rw [if_neg (fun q => q h), if_pos hf]
theorem read_ok {b : List Int} {dim slots : Int} (h : sizesOk dim slots) (hf : formOf b) : readErr b dim slots = askErr (b.getD 0 0) (rId b) (rK b) (rSeed b) (rV b) dim slots := by
  unfold readErr; rw [if_neg (fun q => q h), if_neg (fun q => q hf)]
theorem bne_tf : (true != false) = true := (rfl)
theorem bne_tt : (true != true) = false := (rfl)
theorem bne_ft : (false != true) = true := (rfl)
theorem bne_ff : (false != false) = false := (rfl)
attribute [go_sem] bne_tf bne_tt bne_ft bne_ff
end Go.Proofs.YtfmeiapglpphpaaDoor.T
