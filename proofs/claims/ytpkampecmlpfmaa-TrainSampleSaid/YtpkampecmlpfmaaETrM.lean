import Derived.Test.YtpkampecmlpfmaaECSlots
set_option linter.unusedSimpArgs false
set_option linter.unusedVariables false
/- What a step gathers, plainly. -/
namespace Go.Proofs.Ytpkampecmlpfmaa.T
open Go Go.VL Go.Proofs
abbrev trainD (x a : Int) (s : List (List Int)) : D := .agg [.v (.int .u64 x), .v (.int .i64 a), .lst (rows .i16 s)]
def nxt (x : Int) : Int := (x * 6364136223846793005 + 1442695040888963407) % 18446744073709551616
theorem nxt_range (x : Int) : 0 ≤ nxt x ∧ nxt x < 18446744073709551616 := by unfold nxt; omega
def nx (x : Int) : Nat → Int
  | 0 => x
  | k + 1 => nxt (nx x k)
theorem nx_range {x : Int} (h : 0 ≤ x ∧ x < 18446744073709551616) : ∀ k, 0 ≤ nx x k ∧ nx x k < 18446744073709551616
  | 0 => h
  | k + 1 => nxt_range _
theorem nx_add (x : Int) (a : Nat) : ∀ b, nx x (a + b) = nx (nx x a) b
  | 0 => rfl
  | b + 1 => by
    have := nx_add x a b
    show nxt (nx x (a + b)) = nxt (nx (nx x a) b)
    rw [this]
def lotOf (x b : Int) : Int := x / 8589934592 % b
theorem lotOf_range {x b : Int} (h : 1 ≤ b) : 0 ≤ lotOf x b ∧ lotOf x b < b := ⟨Int.emod_nonneg _ (by omega), Int.emod_lt_of_pos _ (by omega)⟩
def lotsL (x b : Int) : Nat → List Int
  | 0 => []
  | k + 1 => lotsL x b k ++ [lotOf (nx x (k + 1)) b]
theorem lotsL_length (x b : Int) : ∀ k, (lotsL x b k).length = k
  | 0 => rfl
  | k + 1 => by rw [lotsL, List.length_append, lotsL_length x b k]; rfl
theorem lotsL_add (x b : Int) (a : Nat) : ∀ c, lotsL x b (a + c) = lotsL x b a ++ lotsL (nx x a) b c
  | 0 => by simp [lotsL]
  | c + 1 => by
    show lotsL x b (a + c) ++ [lotOf (nx x (a + c + 1)) b] = _
    rw [lotsL_add x b a c, lotsL, ← List.append_assoc, show a + c + 1 = a + (c + 1) from rfl, nx_add]
theorem lotsL_mem {x b : Int} (hb : 1 ≤ b) : ∀ k, ∀ i ∈ lotsL x b k, 0 ≤ i ∧ i < b
  | 0, i, h => absurd h List.not_mem_nil
  | k + 1, i, h => by
    rcases List.mem_append.1 h with h | h
    · exact lotsL_mem hb k i h
    · rw [List.mem_singleton.1 h]; exact lotOf_range hb
def gat (ids : List Int) (vecs : List (List Int)) : List Int → List (List Int)
  | [] => []
  | i :: l => if ids.getD i.toNat 0 = -1 then gat ids vecs l else vecs.getD i.toNat [] :: gat ids vecs l
theorem gat_append {ids : List Int} {vecs : List (List Int)} {m : List Int} : ∀ l, gat ids vecs (l ++ m) = gat ids vecs l ++ gat ids vecs m
  | [] => rfl
  | i :: l => by
    have ih := gat_append (ids := ids) (vecs := vecs) (m := m) l
    rw [List.cons_append]
    simp only [gat]
    rw [ih]
    split <;> rfl
theorem gat_length {ids : List Int} {vecs : List (List Int)} : ∀ l, (gat ids vecs l).length ≤ l.length
  | [] => Nat.le_refl _
  | i :: l => by
    have ih := gat_length (ids := ids) (vecs := vecs) l
    simp only [gat]
    split <;> simp only [List.length_cons] <;> omega
theorem gat_mem {ids : List Int} {vecs : List (List Int)} {v : List Int} : ∀ l, v ∈ gat ids vecs l → ∃ i ∈ l, ids.getD i.toNat 0 ≠ -1 ∧ v = vecs.getD i.toNat []
  | [], h => absurd h List.not_mem_nil
  | i :: l, h => by
    simp only [gat] at h
    split at h
    · obtain ⟨j, h1, h2⟩ := gat_mem l h
      exact ⟨j, List.mem_cons_of_mem _ h1, h2⟩
    · rename_i q
      rcases List.mem_cons.1 h with h | h
      · exact ⟨i, List.mem_cons_self, q, h⟩
      · obtain ⟨j, h1, h2⟩ := gat_mem l h
        exact ⟨j, List.mem_cons_of_mem _ h1, h2⟩
def trainOk (a : Int) (s : List (List Int)) : Prop := (s.length : Int) ≤ a ∧ a ≤ 4096 ∧ ∀ v ∈ s, vecErr v = 0
instance (a : Int) (s : List (List Int)) : Decidable (trainOk a s) := by unfold trainOk; infer_instance
def chkOk (a : Int) (s : List (List Int)) (budget all : Int) : Prop := trainOk a s ∧ (1 ≤ budget ∧ budget ≤ 1024) ∧ 0 ≤ all ∧ all ≤ 4096
instance (a : Int) (s : List (List Int)) (budget all : Int) : Decidable (chkOk a s budget all) := by unfold chkOk; infer_instance
def stepN (a budget all : Int) : Nat := (min budget (max (all - a) 0)).toNat
theorem stepN_le {a budget all : Int} (h : 0 ≤ budget) : (stepN a budget all : Int) ≤ budget ∧ (stepN a budget all : Int) ≤ max (all - a) 0 := by unfold stepN; omega
theorem stepN_zero {a budget all : Int} (h : all ≤ a) (h2 : 0 ≤ budget) : stepN a budget all = 0 := by unfold stepN; omega
theorem stepN_add {a b c all : Int} (h1 : 0 ≤ b) (h2 : 0 ≤ c) : stepN a (b + c) all = stepN a b all + stepN (a + stepN a b all) c all := by unfold stepN; omega
def gathered (x : Int) (ids : List Int) (vecs : List (List Int)) (n : Nat) : List (List Int) := gat ids vecs (lotsL x ids.length n)
theorem gathered_length {x : Int} {ids : List Int} {vecs : List (List Int)} {n : Nat} : (gathered x ids vecs n).length ≤ n := by
  have := gat_length (ids := ids) (vecs := vecs) (lotsL x ids.length n)
  rw [lotsL_length] at this; exact this
theorem gathered_add {x : Int} {ids : List Int} {vecs : List (List Int)} {a b : Nat} : gathered x ids vecs (a + b) = gathered x ids vecs a ++ gathered (nx x a) ids vecs b := by
  unfold gathered
  rw [lotsL_add, gat_append]
theorem gathered_mem {dim x : Int} {ids : List Int} {vecs : List (List Int)} {n : Nat} {v : List Int} (hs : slotsOk dim ids vecs) (h : v ∈ gathered x ids vecs n) : ∃ j, j < ids.length ∧ ids.getD j 0 ≠ -1 ∧ v = vecs.getD j [] ∧ vecErr v = 0 := by
  obtain ⟨i, h1, h2, h3⟩ := gat_mem _ h
  have h4 := lotsL_mem (by have := hs.2.1; omega) _ _ h1
  refine ⟨i.toNat, by omega, h2, h3, ?_⟩
  rw [h3]
  rcases hs.2.2.2 i.toNat (by omega) with ⟨q, _⟩ | ⟨_, _, q, _⟩
  · exact absurd q h2
  · exact q
theorem step_ok {dim x a budget all : Int} {s : List (List Int)} {ids : List Int} {vecs : List (List Int)} (hs : slotsOk dim ids vecs) (h : chkOk a s budget all) : trainOk (a + stepN a budget all) (s ++ gathered x ids vecs (stepN a budget all)) := by
  obtain ⟨⟨h1, h2, h3⟩, h4, h5⟩ := h
  have e := stepN_le (a := a) (all := all) (show 0 ≤ budget by omega)
  have g := gathered_length (x := x) (ids := ids) (vecs := vecs) (n := stepN a budget all)
  refine ⟨by rw [List.length_append]; omega, by omega, fun v hv => ?_⟩
  rcases List.mem_append.1 hv with q | q
  · exact h3 v q
  · obtain ⟨_, _, _, _, r⟩ := gathered_mem hs q
    exact r
end Go.Proofs.Ytpkampecmlpfmaa.T
