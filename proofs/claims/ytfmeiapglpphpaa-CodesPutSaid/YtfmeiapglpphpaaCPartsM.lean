import Derived.Test.YtfmeiapglpphpaaCWrite
set_option linter.unusedSimpArgs false
set_option linter.unusedVariables false
/- Codes in parts, plainly. -/
namespace Go.Proofs.Ytfmeiapglpphpaa.T
open Go Go.VL Go.Proofs
theorem codeOut_length {w : Int} {cuts : List (List Int)} {v : List Int} : (codeOut w cuts v).length ≤ 64 := by
  unfold codeOut
  split
  · rename_i h
    obtain ⟨h1, h2, h3⟩ := codeErr_zero.1 h
    have := (vecOk_iff.1 (vecErr_zero.1 h2)).2.1
    rw [codeL_length, turnL_length]; omega
  · simp
theorem codeOf_fine (c : Coder) (i : Nat) : Octets (codeOf c i).2 ∧ (codeOf c i).2.length ≤ 300 := by
  unfold codeOf
  split
  · exact ⟨(fun x hx => absurd hx List.not_mem_nil), by simp⟩
  · split
    · exact ⟨codeOut_octets, Nat.le_trans codeOut_length (by decide)⟩
    · exact ⟨codeOut_octets, Nat.le_trans codeOut_length (by decide)⟩
theorem wr_fine {c : Coder} {l : List CodeV} {f j : Nat} (h : ∀ x ∈ l, Octets x.2 ∧ x.2.length ≤ 300) : ∀ x ∈ wr c l f j, Octets x.2 ∧ x.2.length ≤ 300 := by
  intro x hx
  obtain ⟨i, hi, rfl⟩ := List.mem_map.1 hx
  rw [List.mem_range] at hi
  unfold wrAt
  split
  · exact codeOf_fine c i
  · exact h _ (getD_mem hi)
theorem writeOut_fine {c : Coder} {l : List CodeV} {f m : Int} (h : ∀ x ∈ l, Octets x.2 ∧ x.2.length ≤ 300) : ∀ x ∈ writeOut c l f m, Octets x.2 ∧ x.2.length ≤ 300 := by
  unfold writeOut
  split
  · exact wr_fine h
  · intro x hx; cases hx
theorem wr_parts {c : Coder} {l : List CodeV} {f a b : Nat} : wr c (wr c l f a) (f + a) b = wr c l f (a + b) := by
  refine ext_getD (d := (false, [])) (by rw [wr_length, wr_length, wr_length]) fun i hi => ?_
  rw [wr_length, wr_length] at hi
  rw [wr_getD (by rw [wr_length]; exact hi), wr_getD hi]
  unfold wrAt
  rw [wr_getD hi]
  unfold wrAt
  by_cases q1 : f + a ≤ i ∧ i < f + a + b
  · rw [if_pos q1, if_pos (by omega)]
  · rw [if_neg q1]
    by_cases q2 : f ≤ i ∧ i < f + a
    · rw [if_pos q2, if_pos (by omega)]
    · rw [if_neg q2, if_neg (by omega)]
theorem wr_again {c : Coder} {l : List CodeV} {f m : Nat} : wr c (wr c l f m) f m = wr c l f m := by
  refine ext_getD (d := (false, [])) (by rw [wr_length, wr_length]) fun i hi => ?_
  rw [wr_length, wr_length] at hi
  rw [wr_getD (by rw [wr_length]; exact hi), wr_getD hi]
  unfold wrAt
  rw [wr_getD hi]
  unfold wrAt
  split
  · rfl
  · rfl
theorem write_parts {c : Coder} {l : List CodeV} {f a b : Int} (ha : 0 ≤ a) (hb : 0 ≤ b) (h : writeErr c l f (a + b) = 0) :
    writeErr c l f a = 0 ∧ writeErr c (writeOut c l f a) (f + a) b = 0 ∧ writeOut c (writeOut c l f a) (f + a) b = writeOut c l f (a + b) ∧
    writeErr c (writeOut c l f (a + b)) f (a + b) = 0 ∧ writeOut c (writeOut c l f (a + b)) f (a + b) = writeOut c l f (a + b) := by
  have ok : writeOk c l f (a + b) := by
    unfold writeErr at h
    split at h
    · assumption
    · cases h
  obtain ⟨h1, h2, ⟨h3, h4⟩, h5, h6⟩ := ok
  have o1 : writeOk c l f (a + b) := ⟨h1, h2, ⟨h3, h4⟩, h5, h6⟩
  have o2 : writeOk c l f a := ⟨h1, h2, ⟨h3, h4⟩, ha, by omega⟩
  have e1 : writeOut c l f (a + b) = wr c l f.toNat (a + b).toNat := if_pos o1
  have e2 : writeOut c l f a = wr c l f.toNat a.toNat := if_pos o2
  rw [e1, e2]
  have l1 := wr_length (c := c) (l := l) (f := f.toNat) (j := (a + b).toNat)
  have l2 := wr_length (c := c) (l := l) (f := f.toNat) (j := a.toNat)
  have o3 : writeOk c (wr c l f.toNat a.toNat) (f + a) b := ⟨h1, by omega, by omega, hb, by omega⟩
  have o4 : writeOk c (wr c l f.toNat (a + b).toNat) f (a + b) := ⟨h1, by omega, by omega, h5, by omega⟩
  have e3 : writeOut c (wr c l f.toNat a.toNat) (f + a) b = wr c (wr c l f.toNat a.toNat) (f + a).toNat b.toNat := if_pos o3
  have e4 : writeOut c (wr c l f.toNat (a + b).toNat) f (a + b) = wr c (wr c l f.toNat (a + b).toNat) f.toNat (a + b).toNat := if_pos o4
  refine ⟨if_pos o2, if_pos o3, ?_, if_pos o4, ?_⟩
  · rw [e3, show (f + a).toNat = f.toNat + a.toNat by omega, wr_parts, show a.toNat + b.toNat = (a + b).toNat by omega]
  · rw [e4, wr_again]
end Go.Proofs.Ytfmeiapglpphpaa.T
