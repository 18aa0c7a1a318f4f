import Derived.Test.YtpkampecmlpfmaaEQLive
import Derived.Test.YtpkampecmlpfmaaETurnM
set_option linter.unusedSimpArgs false
set_option linter.unusedVariables false
/- Codes and boxes, plainly. -/
namespace Go.Proofs.Ytpkampecmlpfmaa.T
open Go Go.VL Go.Proofs
theorem in_span {c : List Int} {n : Nat} {x : Int} (h : cutsErr c = 0) (hn : n ≤ c.length) (hx : -32767 ≤ x ∧ x ≤ 32767) : (lowOf c n ≤ x ∧ x ≤ highOf c n) ↔ cellOf c x = n := by
  have hs := fun i hi => cellOf_spec (cutsErr_zero.1 h).2.1 x i hi
  have hle := cellOf_le c x
  unfold lowOf highOf
  constructor
  · rintro ⟨h1, h2⟩
    by_cases a : 0 < n
    · rw [if_pos a] at h1
      have := (hs (n - 1) (by omega)).1 h1
      by_cases b : n < c.length
      · rw [if_pos b] at h2
        have : ¬ n < cellOf c x := fun q => by have := (hs n b).2 q; omega
        omega
      · omega
    · by_cases b : n < c.length
      · rw [if_pos b] at h2
        have : ¬ n < cellOf c x := fun q => by have := (hs n b).2 q; omega
        omega
      · omega
  · intro e
    constructor
    · split
      · exact (hs (n - 1) (by omega)).2 (by omega)
      · omega
    · split
      · have : ¬ c.getD n 0 ≤ x := fun q => by have := (hs n (by omega)).1 q; omega
        omega
      · omega
theorem turn_forth {v : List Int} {a : Int} : turnL (turnL v (notW a).toNat) a.toNat = v := by
  have h0 : turnL (turnL v (notW a).toNat) a.toNat = turnL v 0 := turn_turn fun k hk => by
    have h1 : dg (notW a).toNat k = (4 - dg a.toNat k) % 4 := by rw [notW_nat, dg_mapW _ _ _ _ _ hk]; rfl
    have h2 := dg_lt a.toNat k
    rw [h1, show dg 0 k = 0 by unfold dg; simp]
    omega
  rw [h0]; exact turn_zero
/-- The spans of a code's box. -/
structure BoxFacts (w : Int) (cuts : List (List Int)) (code : List Int) : Prop where
  book : bookErr w cuts = 0
  len : code.length = cuts.length
  cells : ∀ i, i < code.length → cutsErr (cuts.getD i []) = 0 ∧ (code.getD i 0).toNat ≤ (cuts.getD i []).length ∧ 0 ≤ code.getD i 0
  span : ∀ i, i < code.length → lowAt cuts code i = lowOf (cuts.getD i []) (code.getD i 0).toNat ∧ highAt cuts code i = highOf (cuts.getD i []) (code.getD i 0).toNat ∧ lowAt cuts code i ≤ highAt cuts code i
theorem box_facts {w : Int} {cuts : List (List Int)} {code : List Int} (hc : Octets code) (h : boxErr w cuts code = 0) : BoxFacts w cuts code := by
  unfold boxErr at h
  split at h
  · cases h
  · rename_i h1
    have h1 : bookErr w cuts = 0 := by simpa using h1
    split at h
    · cases h
    · rename_i h2
      have h2 : formOk cuts code := by simpa using h2
      split at h
      · cases h
      · rename_i h3
        have hcell : ∀ i, i < code.length → cutsErr (cuts.getD i []) = 0 ∧ (code.getD i 0).toNat ≤ (cuts.getD i []).length ∧ 0 ≤ code.getD i 0 := fun i hi => by
          have := book_rows h1 _ (getD_mem (d := []) (show i < cuts.length by have := h2.1; omega))
          have a := h2.2 _ (getD_mem (d := 0) hi)
          have b := hc _ (getD_mem (d := 0) hi)
          exact ⟨this.2, by omega, b.1⟩
        refine ⟨h1, h2.1, hcell, fun i hi => ?_⟩
        obtain ⟨c1, c2, c3⟩ := hcell i hi
        have he : spanErr (cuts.getD i []) (code.getD i 0) = 0 := Decidable.byContradiction fun q => h3 ⟨i, hi, q⟩
        have hs := span_ok c1 c3 (by omega)
        rw [he] at hs
        unfold lowAt highAt spanLow spanHigh
        rw [if_pos he, if_pos he]
        refine ⟨rfl, rfl, ?_⟩
        split at hs
        · cases hs
        · omega
theorem spanOf_range {c : List Int} {n : Nat} (h : cutsErr c = 0) (hc : I16s c) (hn : n ≤ c.length) : -32767 ≤ lowOf c n ∧ highOf c n ≤ 32767 := by
  have ok := cutsErr_zero.1 h
  unfold lowOf highOf
  constructor
  · split
    · have h1 := ok.2.1.le (i := 0) (j := n - 1) (by omega) (by omega)
      have h2 := ok.2.2 (by omega)
      omega
    · decide
  · split
    · have := hc.getD n; omega
    · decide
/-- Whatever is between a box's corners, turned back, has the code. -/
theorem code_of_box {w : Int} {cuts : List (List Int)} {code C : List Int} (hr : I16r cuts) (h : BoxFacts w cuts code) (hl : C.length = code.length)
    (hC : ∀ i, i < code.length → lowAt cuts code i ≤ C.getD i 0 ∧ C.getD i 0 ≤ highAt cuts code i) :
    vecErr C = 0 ∧ I16s C ∧ codeL cuts C = code := by
  obtain ⟨b1, b2, _, _⟩ := bookErr_zero.1 h.book
  have hrange : ∀ i, i < code.length → -32767 ≤ C.getD i 0 ∧ C.getD i 0 ≤ 32767 := fun i hi => by
    obtain ⟨c1, c2, c3⟩ := h.cells i hi
    obtain ⟨s1, s2, s3⟩ := h.span i hi
    have := spanOf_range c1 (hr.getD i) c2
    have := hC i hi
    omega
  have hmem : ∀ x ∈ C, -32767 ≤ x ∧ x ≤ 32767 := fun x hx => by
    obtain ⟨i, hi, rfl⟩ := List.mem_iff_getElem.1 hx
    have := hrange i (by omega)
    simpa [List.getD, hi] using this
  refine ⟨vecErr_zero.2 (vecOk_iff.2 ⟨by have := h.len; omega, by have := h.len; omega, fun x hx => (hmem x hx).1⟩), fun x hx => by have := hmem x hx; omega, ?_⟩
  refine ext_getD (d := 0) (by rw [codeL_length, hl]) fun i hi => ?_
  rw [codeL_length] at hi
  rw [codeL_getD hi]
  unfold cellAt
  obtain ⟨c1, c2, c3⟩ := h.cells i (by omega)
  obtain ⟨s1, s2, s3⟩ := h.span i (by omega)
  have := hC i (by omega)
  rw [(in_span c1 c2 (hrange i (by omega))).1 ⟨by omega, by omega⟩]
  omega
theorem boxL_get {cuts : List (List Int)} {code : List Int} {i : Nat} (h : i < code.length) : (boxL cuts code).getD i 0 = lowAt cuts code i ∧ (boxH cuts code).getD i 0 = highAt cuts code i := ⟨getD_map_range h, getD_map_range h⟩
theorem box_range {w : Int} {cuts : List (List Int)} {code : List Int} (hr : I16r cuts) (h : BoxFacts w cuts code) {i : Nat} (hi : i < code.length) :
    -32767 ≤ (boxL cuts code).getD i 0 ∧ (boxL cuts code).getD i 0 ≤ (boxH cuts code).getD i 0 ∧ (boxH cuts code).getD i 0 ≤ 32767 := by
  obtain ⟨c1, c2, c3⟩ := h.cells i hi
  obtain ⟨s1, s2, s3⟩ := h.span i hi
  have := spanOf_range c1 (hr.getD i) c2
  rw [(boxL_get hi).1, (boxL_get hi).2]
  omega
/-- A vector, turned, is in the box of its code. -/
theorem own_box {w : Int} {cuts : List (List Int)} {v : List Int} (hv : I16s v) (h : codeErr w cuts v = 0) :
    boxErr w cuts (codeOut w cuts v) = 0 ∧ formOk cuts (codeOut w cuts v) ∧ (codeOut w cuts v).length = v.length ∧ ∀ i, i < v.length → lowAt cuts (codeOut w cuts v) i ≤ (turnL v w.toNat).getD i 0 ∧ (turnL v w.toNat).getD i 0 ≤ highAt cuts (codeOut w cuts v) i := by
  obtain ⟨h1, h2, h3⟩ := codeErr_zero.1 h
  have o : codeOut w cuts v = codeL cuts (turnL v w.toNat) := by unfold codeOut; rw [if_pos h]
  have hok := turnL_ok hv (vecErr_zero.1 h2) w.toNat
  have hur := vecOk_getD hok.2 hok.1
  have hul := turnL_length (v := v) (w := w.toNat)
  generalize turnL v w.toNat = u at *
  rw [o]
  have hget : ∀ i, i < v.length → (codeL cuts u).getD i 0 = (cellOf (cuts.getD i []) (u.getD i 0) : Nat) := fun i hi => codeL_getD (by omega)
  have hrow := fun i (hi : i < v.length) => book_rows h1 _ (getD_mem (d := []) (show i < cuts.length by omega))
  have hspan : ∀ i, i < v.length → spanErr (cuts.getD i []) ((codeL cuts u).getD i 0) = 0 ∧ lowAt cuts (codeL cuts u) i ≤ u.getD i 0 ∧ u.getD i 0 ≤ highAt cuts (codeL cuts u) i := fun i hi => by
    have hle := cellOf_le (cuts.getD i []) (u.getD i 0)
    have hc := (hrow i hi).2
    obtain ⟨a, b⟩ := (in_span hc hle (hur i)).2 rfl
    have hs : spanErr (cuts.getD i []) ((codeL cuts u).getD i 0) = 0 := by
      rw [hget i hi, span_ok hc (by omega) (by omega), Int.toNat_natCast, if_neg (by omega)]
    refine ⟨hs, ?_⟩
    unfold lowAt highAt spanLow spanHigh
    rw [if_pos hs, if_pos hs, hget i hi, Int.toNat_natCast]
    exact ⟨a, b⟩
  have hf : formOk cuts (codeL cuts u) := by
    refine ⟨by rw [codeL_length]; omega, fun x hx => ?_⟩
    obtain ⟨i, hi, rfl⟩ := List.mem_iff_getElem.1 hx
    have hi' : i < v.length := by rw [codeL_length] at hi; omega
    have e := hget i hi'
    rw [show (codeL cuts u).getD i 0 = (codeL cuts u)[i] by simp [List.getD, hi]] at e
    have hle := cellOf_le (cuts.getD i []) (u.getD i 0)
    have := (hrow i hi').1
    rw [e]; omega
  refine ⟨?_, hf, by rw [codeL_length, hul], fun i hi => (hspan i hi).2⟩
  unfold boxErr
  rw [if_neg (by simpa using h1), if_neg (by simpa using hf), if_neg]
  rintro ⟨i, hi, hne⟩
  rw [codeL_length] at hi
  exact hne (hspan i (by omega)).1
/-- A vector, turned, is in no other code's box. -/
theorem other_box {w : Int} {cuts : List (List Int)} {v code : List Int} (hv : I16s v) (h : codeErr w cuts v = 0) (hc : BoxFacts w cuts code) {i : Nat} (hi : i < v.length) :
    (lowAt cuts code i ≤ (turnL v w.toNat).getD i 0 ∧ (turnL v w.toNat).getD i 0 ≤ highAt cuts code i) ↔ (codeOut w cuts v).getD i 0 = code.getD i 0 := by
  obtain ⟨h1, h2, h3⟩ := codeErr_zero.1 h
  have o : codeOut w cuts v = codeL cuts (turnL v w.toNat) := by unfold codeOut; rw [if_pos h]
  have hok := turnL_ok hv (vecErr_zero.1 h2) w.toNat
  have hur := vecOk_getD hok.2 hok.1
  have hul := turnL_length (v := v) (w := w.toNat)
  generalize turnL v w.toNat = u at *
  have hi2 : i < code.length := by rw [hc.len]; omega
  obtain ⟨c1, c2, c3⟩ := hc.cells i hi2
  obtain ⟨s1, s2, s3⟩ := hc.span i hi2
  rw [s1, s2, in_span c1 c2 (hur i), o, codeL_getD (by omega)]
  unfold cellAt
  omega
end Go.Proofs.Ytpkampecmlpfmaa.T
