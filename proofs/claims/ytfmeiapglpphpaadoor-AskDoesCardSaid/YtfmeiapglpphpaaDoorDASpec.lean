import Derived.Test.YtfmeiapglpphpaaDoorDVSpec
/- What is asked, plainly. -/
namespace Go.Proofs.YtfmeiapglpphpaaDoor.T
open Go Go.VL Go.Proofs
def sizesOk (dim slots : Int) : Prop := (1 ≤ dim ∧ dim ≤ 64) ∧ 1 ≤ slots ∧ slots ≤ 256
instance (dim slots : Int) : Decidable (sizesOk dim slots) := by unfold sizesOk; infer_instance
def shI (k : Int) : Int := if k = 1 ∨ k = 2 ∨ k = 3 ∨ k = 4 then 4 else 0
def shK (k : Int) : Int := if k = 5 then 2 else 0
def shS (k : Int) : Int := if k = 7 then 8 else 0
def shV (k : Int) : Bool := decide (k = 1 ∨ k = 2 ∨ k = 5)
def namedP (n w lo hi : Int) : Prop := if w = 0 then n = 0 else lo ≤ n ∧ n ≤ hi
instance (n w lo hi : Int) : Decidable (namedP n w lo hi) := by unfold namedP; infer_instance
def kindOk (k : Int) : Prop := 1 ≤ k ∧ k ≤ 8
instance (k : Int) : Decidable (kindOk k) := by unfold kindOk; infer_instance
def vOk (k : Int) (v : List Int) (dim : Int) : Prop := if shV k then (v.length : Int) = dim ∧ vecErr v = 0 else v.length = 0
instance (k : Int) (v : List Int) (dim : Int) : Decidable (vOk k v dim) := by unfold vOk; infer_instance
def askOk (k id n seed : Int) (v : List Int) (dim slots : Int) : Prop :=
  sizesOk dim slots ∧ kindOk k ∧ namedP id (shI k) 0 2147483647 ∧ namedP n (shK k) 1 slots ∧ namedP seed (shS k) 0 9223372036854775807 ∧ vOk k v dim
instance (k id n seed : Int) (v : List Int) (dim slots : Int) : Decidable (askOk k id n seed v dim slots) := by unfold askOk; infer_instance
def askErr (k id n seed : Int) (v : List Int) (dim slots : Int) : Int := if askOk k id n seed v dim slots then 0 else 1
/-- Shapes come in five. -/
theorem shapes_five {k : Int} (h : kindOk k) : (shI k = 4 ∧ shK k = 0 ∧ shS k = 0 ∧ shV k = true) ∨ (shI k = 4 ∧ shK k = 0 ∧ shS k = 0 ∧ shV k = false) ∨ (shI k = 0 ∧ shK k = 2 ∧ shS k = 0 ∧ shV k = true) ∨
    (shI k = 0 ∧ shK k = 0 ∧ shS k = 0 ∧ shV k = false) ∨ (shI k = 0 ∧ shK k = 0 ∧ shS k = 8 ∧ shV k = false) := by
  obtain ⟨h1, h2⟩ := h
  have : k = 1 ∨ k = 2 ∨ k = 3 ∨ k = 4 ∨ k = 5 ∨ k = 6 ∨ k = 7 ∨ k = 8 := by omega
  rcases this with rfl | rfl | rfl | rfl | rfl | rfl | rfl | rfl <;> decide
abbrev askD (k id n seed : Int) (v : List Int) : D := .agg [.v (.int .i64 k), .v (.int .i64 id), .v (.int .i64 n), .v (.int .i64 seed), .lst (ints .i16 v)]
end Go.Proofs.YtfmeiapglpphpaaDoor.T
