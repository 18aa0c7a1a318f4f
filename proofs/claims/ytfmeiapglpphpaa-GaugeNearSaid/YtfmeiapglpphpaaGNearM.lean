import Derived.Test.YtfmeiapglpphpaaGTable
import Derived.Test.YtfmeiapglpphpaaGNear
import Derived.Test.YtfmeiapglpphpaaGMath
import Derived.Test.YtfmeiapglpphpaaGSums
set_option linter.unusedSimpArgs false
set_option linter.unusedVariables false
/- The nearest, plainly. -/
namespace Go.Proofs.Ytfmeiapglpphpaa.T
open Go Go.VL Go.Proofs
theorem near_between {x lo hi : Int} (h : lo ≤ hi) : lo ≤ near x lo hi ∧ near x lo hi ≤ hi := by
  unfold near mn mx
  constructor <;> (repeat' split) <;> omega
theorem near_own {x lo hi : Int} (h1 : lo ≤ x) (h2 : x ≤ hi) : near x lo hi = x ∧ far x lo hi = 0 := by
  unfold near far mn mx
  constructor <;> (repeat' split) <;> omega
theorem near_far {x lo hi : Int} (h : lo ≤ hi) : sq (near x lo hi) x = far x lo hi * far x lo hi := by
  have : near x lo hi - x = far x lo hi ∨ near x lo hi - x = - far x lo hi := by
    unfold near far mn mx
    (repeat' split) <;> omega
  unfold sq
  rcases this with h | h <;> rw [h]
  rw [Int.neg_mul_neg]
theorem nearL_getD {l : List Place} {i : Nat} (h : i < l.length) : (nearL l).getD i 0 = nearP (l.getD i (0, 0, 0)) := getD_map_range h
theorem box_form {w : Int} {cuts : List (List Int)} {code : List Int} (h : boxErr w cuts code = 0) : formOk cuts code := by
  unfold boxErr at h
  split at h
  · cases h
  · split at h
    · cases h
    · rename_i h2; simpa using h2
/-- What is nearest of a box. -/
structure NearFacts (w : Int) (cuts : List (List Int)) (code q : List Int) : Prop where
  err : nearErr w cuts code q = 0
  i16 : I16s (nearOut w cuts code q)
  len : (nearOut w cuts code q).length = q.length
  vec : vecErr (nearOut w cuts code q) = 0
  cd : codeErr w cuts (nearOut w cuts code q) = 0 ∧ formOk cuts code ∧ codeOut w cuts (nearOut w cuts code q) = code
  ds : pairErr (nearOut w cuts code q) q = 0 ∧ dist (nearOut w cuts code q) q = gLow w cuts code q
theorem near_facts {w : Int} {cuts : List (List Int)} {code q : List Int} (hc : Octets code) (hq : I16s q) (hr : I16r cuts) (h : gaugeErr w cuts code q = 0) : NearFacts w cuts code q := by
  obtain ⟨e1, e2, e3⟩ := gauge_ok hc h
  obtain ⟨b1, b2, b3⟩ := codeErr_zero.1 e1
  have bf := box_facts hc e2
  have hul := turnL_length (v := q) (w := w.toNat)
  have hpl : placesOut w cuts code q = placesL (turnL q w.toNat) (boxL cuts code) (boxH cuts code) := by unfold placesOut; rw [if_pos h]
  have hll := placesL_length (u := turnL q w.toNat) (L := boxL cuts code) (H := boxH cuts code)
  have hkp : ∀ k, k < code.length → (placesL (turnL q w.toNat) (boxL cuts code) (boxH cuts code)).getD k (0, 0, 0) = ((turnL q w.toNat).getD k 0, lowAt cuts code k, highAt cuts code k) := by
    intro k hk
    rw [placesL_getD (by omega)]
    unfold placeAt
    rw [(boxL_get hk).1, (boxL_get hk).2]
  have hC : ∀ i, i < code.length → (nearL (placesOut w cuts code q)).getD i 0 = near ((turnL q w.toNat).getD i 0) (lowAt cuts code i) (highAt cuts code i) := by
    intro i hi
    rw [hpl, nearL_getD (by omega), hkp i hi]; rfl
  have hCl : (nearL (placesOut w cuts code q)).length = code.length := by rw [nearL_length, hpl]; omega
  have hle : ∀ i, i < code.length → lowAt cuts code i ≤ highAt cuts code i := fun i hi => (bf.span i hi).2.2
  obtain ⟨c1, c2, c3⟩ := code_of_box hr bf hCl fun i hi => by rw [hC i hi]; exact near_between (hle i hi)
  have hway := wayErr_zero (bookErr_zero.1 b1).2.2.1
  have ht : turnErr (nearL (placesOut w cuts code q)) w = 0 := turnErr_iff.2 ⟨c1, hway⟩
  have ho : nearOut w cuts code q = turnL (nearL (placesOut w cuts code q)) (notW w).toNat := by unfold nearOut backOut; rw [if_pos h, if_pos ht]
  obtain ⟨v1, v2⟩ := turnL_ok c2 (vecErr_zero.1 c1) (notW w).toNat
  have hf : turnL (nearOut w cuts code q) w.toNat = nearL (placesOut w cuts code q) := by rw [ho]; exact turn_forth
  have hlen : (nearOut w cuts code q).length = q.length := by rw [ho, turnL_length, hCl]; exact e3
  have hv : vecErr (nearOut w cuts code q) = 0 := by rw [ho]; exact vecErr_zero.2 v1
  have hce : codeErr w cuts (nearOut w cuts code q) = 0 := codeErr_zero.2 ⟨b1, hv, by omega⟩
  have hp : pairErr (nearOut w cuts code q) q = 0 := pairErr_zero.2 ⟨vecErr_zero.1 hv, vecErr_zero.1 b2, hlen⟩
  refine ⟨by unfold nearErr; rw [if_pos h]; exact ht, by rw [ho]; exact v2, hlen, hv, ⟨hce, box_form e2, ?_⟩, hp, ?_⟩
  · unfold codeOut
    rw [if_pos hce, hf]; exact c3
  · have e : dist (nearOut w cuts code q) q = sumN sq (nearOut w cuts code q) q (nearOut w cuts code q).length := sumOf_ok hp
    rw [e, ← sumN_turn_all (w := w.toNat) (fun d hd x y x' y' => sq_rot hd x y x' y') hlen.symm, hf, hlen]
    unfold gLow
    rw [hpl, hll, hul, ← hpl]
    have key : ∀ k, k ≤ q.length → sumN sq (nearL (placesOut w cuts code q)) (turnL q w.toNat) k = sqP far (placesOut w cuts code q) k := by
      intro k
      induction k with
      | zero => intro _; rfl
      | succ k ih =>
        intro hk
        rw [sumN, sqP, ih (by omega), hC k (by omega), hpl, hkp k (by omega)]
        congr 1
        exact near_far (hle k (by omega))
    exact key _ (Nat.le_refl _)
/-- Of one's own code the nearest is oneself. -/
theorem near_self {w : Int} {cuts : List (List Int)} {q : List Int} (hq : I16s q) (hr : I16r cuts) (h : codeErr w cuts q = 0) :
    gaugeErr w cuts (codeOut w cuts q) q = 0 ∧ gLow w cuts (codeOut w cuts q) q = 0 ∧ nearErr w cuts (codeOut w cuts q) q = 0 ∧ nearOut w cuts (codeOut w cuts q) q = q := by
  obtain ⟨b1, b2, b3⟩ := codeErr_zero.1 h
  have hp : pairErr q q = 0 := pairErr_zero.2 ⟨vecErr_zero.1 b2, vecErr_zero.1 b2, rfl⟩
  obtain ⟨g1, g2, g3, g4⟩ := below_all hq hq h hp
  have hd : dist q q = 0 := by
    have e : dist q q = sumN sq q q q.length := sumOf_ok hp
    rw [e]
    have : ∀ k, sumN sq q q k = 0 := by
      intro k
      induction k with
      | zero => rfl
      | succ k ih => rw [sumN, ih]; unfold sq; simp
    exact this _
  have ho := codeOut_octets (w := w) (cuts := cuts) (v := q)
  have nf := near_facts ho hq hr g1
  refine ⟨g1, by omega, nf.err, ?_⟩
  obtain ⟨o0, of, ol, oi⟩ := own_box hq h
  have hul := turnL_length (v := q) (w := w.toNat)
  have hpl : placesOut w cuts (codeOut w cuts q) q = placesL (turnL q w.toNat) (boxL cuts (codeOut w cuts q)) (boxH cuts (codeOut w cuts q)) := by unfold placesOut; rw [if_pos g1]
  have hll := placesL_length (u := turnL q w.toNat) (L := boxL cuts (codeOut w cuts q)) (H := boxH cuts (codeOut w cuts q))
  have hC : nearL (placesOut w cuts (codeOut w cuts q) q) = turnL q w.toNat := by
    refine ext_getD (d := 0) (by rw [nearL_length, hpl, hll]) fun i hi => ?_
    rw [nearL_length, hpl, hll, hul] at hi
    rw [hpl, nearL_getD (by omega), placesL_getD (by omega)]
    unfold placeAt
    rw [(boxL_get (by omega)).1, (boxL_get (by omega)).2]
    exact (near_own (oi i hi).1 (oi i hi).2).1
  have ht : turnErr (nearL (placesOut w cuts (codeOut w cuts q) q)) w = 0 := by
    have := nf.err
    unfold nearErr at this
    rw [if_pos g1] at this; exact this
  unfold nearOut backOut
  rw [if_pos g1, if_pos ht, hC]
  exact turn_back
theorem span_of_box {w : Int} {cuts : List (List Int)} {code : List Int} (h : BoxFacts w cuts code) {i : Nat} (hi : i < code.length) : spanErr (cuts.getD i []) (code.getD i 0) = 0 := by
  obtain ⟨c1, c2, c3⟩ := h.cells i hi
  obtain ⟨s1, s2, s3⟩ := h.span i hi
  rw [span_ok c1 c3 (by omega), if_neg (by omega)]
theorem tab_cells {u : List Int} {cuts : List (List Int)} {i : Nat} (h : i < u.length) : (tabL u cuts).getD i [] = tabRow (u.getD i 0) (cuts.getD i []) := getD_map_range h
theorem cell_small {x : Int} {c : List Int} {j : Nat} (hx : -32768 ≤ x ∧ x ≤ 32767) (hc : I16s c) : tabCell x c j ≤ 4294967296 := by
  unfold tabCell
  split
  · rename_i h
    obtain ⟨⟨r1, r2⟩, r3, r4⟩ := span_range hc h
    have hfr : 0 ≤ far x (spanLow c j) (spanHigh c j) ∧ far x (spanLow c j) (spanHigh c j) ≤ 65536 := by
      unfold far mx
      constructor <;> (repeat' split) <;> omega
    have := Int.mul_le_mul hfr.2 hfr.2 hfr.1 (by omega)
    omega
  · omega
/-- What the table tells of a code is the least distance. -/
theorem table_sum {w : Int} {cuts : List (List Int)} {code q : List Int} (hc : Octets code) (hq : I16s q) (hr : I16r cuts) (h : gaugeErr w cuts code q = 0) :
    sumErr (tabOut w cuts q) code = 0 ∧ sumVal (tabOut w cuts q) code = gLow w cuts code q := by
  obtain ⟨e1, e2, e3⟩ := gauge_ok hc h
  obtain ⟨b1, b2, b3⟩ := codeErr_zero.1 e1
  have bf := box_facts hc e2
  have hul := turnL_length (v := q) (w := w.toNat)
  have hui := (turnL_ok hq (vecErr_zero.1 b2) w.toNat).2
  have ht : tabOut w cuts q = tabL (turnL q w.toNat) cuts := by unfold tabOut; rw [if_pos e1]
  have hpl : placesOut w cuts code q = placesL (turnL q w.toNat) (boxL cuts code) (boxH cuts code) := by unfold placesOut; rw [if_pos h]
  have hll := placesL_length (u := turnL q w.toNat) (L := boxL cuts code) (H := boxH cuts code)
  have hkp : ∀ k, k < code.length → (placesL (turnL q w.toNat) (boxL cuts code) (boxH cuts code)).getD k (0, 0, 0) = ((turnL q w.toNat).getD k 0, lowAt cuts code k, highAt cuts code k) := by
    intro k hk
    rw [placesL_getD (by omega)]
    unfold placeAt
    rw [(boxL_get hk).1, (boxL_get hk).2]
  unfold gLow
  rw [ht, hpl, hll]
  generalize turnL q w.toNat = u at *
  have hent : ∀ i, i < code.length → ent (tabL u cuts) code i = ruleP far ((placesL u (boxL cuts code) (boxH cuts code)).getD i (0, 0, 0)) * ruleP far ((placesL u (boxL cuts code) (boxH cuts code)).getD i (0, 0, 0)) := by
    intro i hi
    obtain ⟨c1, c2, c3⟩ := bf.cells i hi
    have hs := span_of_box bf hi
    have en : ((code.getD i 0).toNat : Int) = code.getD i 0 := by omega
    unfold ent
    rw [tab_cells (by omega), show (tabRow (u.getD i 0) (cuts.getD i [])).getD (code.getD i 0).toNat 0 = tabCell (u.getD i 0) (cuts.getD i []) (code.getD i 0).toNat from getD_map_range (by omega), hkp i hi]
    unfold tabCell
    rw [en, if_pos hs]
    rfl
  have hbig : (tabL u cuts).any bigL = false := by
    rw [List.any_eq_false]
    intro l hl
    obtain ⟨i, hi, rfl⟩ := List.mem_map.1 hl
    unfold bigL
    rw [Bool.not_eq_true, List.any_eq_false]
    intro n hn
    obtain ⟨j, hj, rfl⟩ := List.mem_map.1 hn
    have := cell_small (j := j) (hui.getD i) (hr.getD i)
    simp only [decide_eq_true_eq]
    omega
  have hin : inT (tabL u cuts) code := by
    intro i hi
    obtain ⟨c1, c2, c3⟩ := bf.cells i hi
    rw [tab_cells (by omega), tabRow_length]
    omega
  have hlen : code.length = (tabL u cuts).length := by rw [tabL_length]; omega
  have hnn : ∀ i, i < code.length → 0 ≤ ent (tabL u cuts) code i := by
    intro i hi
    rw [hent i hi]
    generalize ruleP far ((placesL u (boxL cuts code) (boxH cuts code)).getD i (0, 0, 0)) = R
    by_cases q0 : 0 ≤ R
    · exact Int.mul_nonneg q0 q0
    · have := Int.mul_nonneg (a := -R) (b := -R) (by omega) (by omega)
      rwa [Int.neg_mul_neg] at this
  have key : ∀ k, k ≤ code.length → negB (tabL u cuts) code k = false ∧ accN (tabL u cuts) code k = sqP far (placesL u (boxL cuts code) (boxH cuts code)) k := by
    intro k
    induction k with
    | zero => intro _; exact ⟨rfl, rfl⟩
    | succ k ih =>
      intro hk
      obtain ⟨i1, i2⟩ := ih (by omega)
      have h0 := hnn k (by omega)
      refine ⟨by rw [negB, i1, Bool.false_or]; exact decide_eq_false (by omega), ?_⟩
      rw [accN, sqP, i2, ← hent k (by omega)]
      congr 1
      unfold mx
      split <;> omega
  obtain ⟨k1, k2⟩ := key code.length (Nat.le_refl _)
  obtain ⟨f1, f2⟩ := sum_fine hbig ⟨hlen, hin⟩ k1
  refine ⟨f1, ?_⟩
  rw [f2, k2]
  congr 1
  omega
end Go.Proofs.Ytfmeiapglpphpaa.T
