import Derived.Test.YtfmeiapglpphpaaQMath
set_option linter.unusedSimpArgs false
set_option linter.unusedVariables false
/- Fewer cuts, plainly. -/
namespace Go.Proofs.Ytfmeiapglpphpaa.T
open Go Go.VL Go.Proofs
def fewC (d : Nat) (c : List Int) : List Int := c.take d ++ c.drop (d + 1)
theorem fewC_length {d : Nat} {c : List Int} (h : d < c.length) : (fewC d c).length = c.length - 1 := by unfold fewC; simp; omega
theorem fewC_getD {d : Nat} {c : List Int} (h : d < c.length) (i : Nat) : (fewC d c).getD i 0 = if i < d then c.getD i 0 else c.getD (i + 1) 0 := by
  unfold fewC
  simp only [List.getD, List.getElem?_append, List.length_take, List.getElem?_take, List.getElem?_drop]
  rw [Nat.min_eq_left (by omega)]
  split
  · rfl
  · rename_i h; rw [show d + 1 + (i - d) = i + 1 by omega]
theorem split_at {d : Nat} {c : List Int} (h : d < c.length) : c = c.take d ++ (c.getD d 0 :: c.drop (d + 1)) := by
  have e := List.take_append_drop d c
  rw [List.drop_eq_getElem_cons h] at e
  rw [show c.getD d 0 = c[d] by simp [List.getD, h]]
  exact e.symm
theorem cellOf_few {d : Nat} {c : List Int} (hr : Rises c) (h : d < c.length) (x : Int) : cellOf (fewC d c) x = if d < cellOf c x then cellOf c x - 1 else cellOf c x := by
  have hs := cellOf_spec hr x d h
  have e : cellOf c x = cellOf (fewC d c) x + if c.getD d 0 ≤ x then 1 else 0 := by
    conv => lhs; rw [split_at h]
    unfold cellOf fewC
    rw [List.countP_append, List.countP_cons, List.countP_append]
    simp
    omega
  by_cases q : c.getD d 0 ≤ x
  · rw [if_pos q] at e; rw [if_pos (hs.1 q)]; omega
  · rw [if_neg q] at e; rw [if_neg (fun q' => q (hs.2 q'))]; omega
theorem few_ok {d : Nat} {c : List Int} (h : cutsErr c = 0) (hd : d < c.length) : cutsErr (fewC d c) = 0 := by
  obtain ⟨h1, h2, h3⟩ := cutsErr_zero.1 h
  have hl := fewC_length hd
  refine cutsErr_zero.2 ⟨by omega, fun i hi => ?_, fun h0 => ?_⟩
  · rw [fewC_getD hd, fewC_getD hd]
    split
    · split
      · exact h2.le (by omega) (by omega)
      · exact h2.le (by omega) (by omega)
    · rw [if_neg (by omega)]
      exact h2.le (by omega) (by omega)
  · rw [fewC_getD hd]
    have := h3 (by omega)
    split
    · exact this
    · have := h2.le (i := 0) (j := 0 + 1) (by omega) (by omega)
      omega
theorem fewC_i16 {d : Nat} {c : List Int} (h : I16s c) : I16s (fewC d c) := (h.take d).append (h.drop (d + 1))
theorem few_getD {d i : Nat} {cuts : List (List Int)} (h : i < cuts.length) : (cuts.map (fewC d)).getD i [] = fewC d (cuts.getD i []) := by
  simp [List.getD, h]
theorem few_many {d : Nat} {cuts : List (List Int)} (h : 1 ≤ cuts.length) (hd : d < manyOf cuts) : manyOf (cuts.map (fewC d)) = manyOf cuts - 1 := by
  show ((cuts.map (fewC d)).getD 0 []).length = _
  rw [few_getD (by omega), fewC_length hd]; rfl
theorem few_book {w : Int} {d : Nat} {cuts : List (List Int)} (h : bookErr w cuts = 0) (hd : d < manyOf cuts) : bookErr w (cuts.map (fewC d)) = 0 := by
  obtain ⟨b1, b2, b3, _⟩ := bookErr_zero.1 h
  have hr := book_rows h
  refine bookErr_zero.2 ⟨by simpa using b1, by simpa using b2, b3, ?_⟩
  rw [List.any_eq_false]
  intro c hc
  obtain ⟨c', hc', rfl⟩ := List.mem_map.1 hc
  obtain ⟨r1, r2⟩ := hr c' hc'
  unfold oddCut
  rw [few_many b1 hd, few_ok r2 (by omega), fewC_length (by omega), r1]
  simp
theorem few_i16 {d : Nat} {cuts : List (List Int)} (h : I16r cuts) : I16r (cuts.map (fewC d)) := fun c hc => by
  obtain ⟨c', hc', rfl⟩ := List.mem_map.1 hc
  exact fewC_i16 (h c' hc')
theorem few_codeErr {w : Int} {d : Nat} {cuts : List (List Int)} {v : List Int} (h : codeErr w cuts v = 0) (hd : d < manyOf cuts) : codeErr w (cuts.map (fewC d)) v = 0 := by
  obtain ⟨h1, h2, h3⟩ := codeErr_zero.1 h
  exact codeErr_zero.2 ⟨few_book h1 hd, h2, by simpa using h3⟩
theorem few_code {w : Int} {d : Nat} {cuts : List (List Int)} {v : List Int} (h : codeErr w cuts v = 0) (hd : d < manyOf cuts) :
    codeOut w (cuts.map (fewC d)) v = (codeOut w cuts v).map fun n => if (d : Int) < n then n - 1 else n := by
  obtain ⟨h1, h2, h3⟩ := codeErr_zero.1 h
  have hr := book_rows h1
  unfold codeOut
  rw [if_pos (few_codeErr h hd), if_pos h]
  have hul := turnL_length (v := v) (w := w.toNat)
  generalize turnL v w.toNat = u at *
  refine ext_getD (d := 0) (by simp [codeL_length]) fun i hi => ?_
  rw [codeL_length] at hi
  rw [codeL_getD hi]
  have hi2 : i < (codeL cuts u).length := by rw [codeL_length]; exact hi
  rw [show ((codeL cuts u).map fun n => if (d : Int) < n then n - 1 else n).getD i 0 = (fun n : Int => if (d : Int) < n then n - 1 else n) ((codeL cuts u).getD i 0) by simp [List.getD, hi2]]
  rw [codeL_getD hi]
  unfold cellAt
  obtain ⟨r1, r2⟩ := hr _ (getD_mem (d := []) (show i < cuts.length by omega))
  rw [few_getD (by omega), cellOf_few (cutsErr_zero.1 r2).2.1 (by omega)]
  simp only
  split <;> split <;> omega
theorem code_plain {w : Int} {cuts : List (List Int)} {v : List Int} (hv : I16s v) (h : codeErr w cuts v = 0) :
    codeErr 0 cuts (turnL v w.toNat) = 0 ∧ codeOut 0 cuts (turnL v w.toNat) = codeOut w cuts v := by
  obtain ⟨h1, h2, h3⟩ := codeErr_zero.1 h
  obtain ⟨b1, b2, b3, b4⟩ := bookErr_zero.1 h1
  have hok := turnL_ok hv (vecErr_zero.1 h2) w.toNat
  have h0 : codeErr 0 cuts (turnL v w.toNat) = 0 := codeErr_zero.2 ⟨bookErr_zero.2 ⟨b1, b2, by decide, b4⟩, vecErr_zero.2 hok.1, by rw [turnL_length]; exact h3⟩
  refine ⟨h0, ?_⟩
  unfold codeOut
  rw [if_pos h0, if_pos h]
  exact congrArg _ turn_zero
def dropN (d m : Int) : Int := (d.tmod m + m).tmod m
theorem dropN_range {d m : Int} (h : 0 < m) : 0 ≤ dropN d m ∧ dropN d m < m ∧ -m < d.tmod m ∧ d.tmod m < m := by
  have h1 := Int.tmod_lt_of_pos d h
  have h2 := Int.lt_tmod_of_pos d h
  exact ⟨Int.tmod_nonneg _ (by omega), Int.tmod_lt_of_pos _ h, h2, h1⟩
end Go.Proofs.Ytfmeiapglpphpaa.T
