import Derived.Test.YtfmeiapglpphpaaGMath
import Derived.Test.YtfmeiapglpphpaaQFew
set_option linter.unusedSimpArgs false
set_option linter.unusedVariables false
/- By fewer cuts a code's vectors are less told apart. -/
namespace Go.Proofs.Ytfmeiapglpphpaa.T
open Go Go.VL Go.Proofs
theorem few_span {d : Nat} {c : List Int} (hc : cutsErr c = 0) (hi : I16s c) (h : d < c.length) (x : Int) :
    lowOf (fewC d c) (cellOf (fewC d c) x) ≤ lowOf c (cellOf c x) ∧ highOf c (cellOf c x) ≤ highOf (fewC d c) (cellOf (fewC d c) x) := by
  have ok := cutsErr_zero.1 hc
  have hle := cellOf_le c x
  have hl := fewC_length h
  have hg := fewC_getD h
  rw [cellOf_few ok.2.1 h x]
  generalize cellOf c x = n at *
  have hlow : ∀ i, i < c.length → -32767 ≤ c.getD i 0 := fun i hi => by
    have h1 := ok.2.1.le (i := 0) (j := i) (by omega) hi
    have h2 := ok.2.2 (by omega)
    omega
  have hhigh : ∀ i, c.getD i 0 ≤ 32767 := fun i => (hi.getD i).2
  by_cases q : d < n
  · rw [if_pos q]
    unfold lowOf highOf
    rw [hl]
    constructor
    · rw [if_pos (show 0 < n by omega)]
      by_cases q2 : 0 < n - 1
      · rw [if_pos q2, hg]
        by_cases q3 : n - 1 - 1 < d
        · rw [if_pos q3]
          exact ok.2.1.le (by omega) (by omega)
        · rw [if_neg q3, show n - 1 - 1 + 1 = n - 1 by omega]; exact Int.le_refl _
      · rw [if_neg q2]; exact hlow _ (by omega)
    · by_cases q2 : n - 1 < c.length - 1
      · rw [if_pos q2, if_pos (show n < c.length by omega), hg, if_neg (by omega), show n - 1 + 1 = n by omega]; exact Int.le_refl _
      · rw [if_neg q2]
        split
        · have := hhigh n; omega
        · exact Int.le_refl _
  · rw [if_neg q]
    unfold lowOf highOf
    rw [hl]
    constructor
    · by_cases q2 : 0 < n
      · rw [if_pos q2, if_pos q2, hg, if_pos (by omega)]; exact Int.le_refl _
      · rw [if_neg q2, if_neg q2]; exact Int.le_refl _
    · by_cases q2 : n < c.length - 1
      · rw [if_pos q2, if_pos (show n < c.length by omega), hg]
        by_cases q3 : n < d
        · rw [if_pos q3]; exact Int.le_refl _
        · rw [if_neg q3]
          have := ok.2.1.le (i := n) (j := n + 1) (by omega) (by omega)
          omega
      · rw [if_neg q2]
        split
        · have := hhigh n; omega
        · exact Int.le_refl _
theorem far_wide {x lo hi lo' hi' : Int} (h1 : lo' ≤ lo) (h2 : hi ≤ hi') : far x lo' hi' * far x lo' hi' ≤ far x lo hi * far x lo hi := by
  have h0 : 0 ≤ far x lo' hi' := by unfold far mx; repeat' split <;> omega
  refine sq_mono h0 (.inl ?_)
  unfold far mx
  repeat' split
  all_goals omega
theorem most_wide {x lo hi lo' hi' : Int} (h : lo ≤ hi) (h1 : lo' ≤ lo) (h2 : hi ≤ hi') : most x lo hi * most x lo hi ≤ most x lo' hi' * most x lo' hi' := by
  have h0 : 0 ≤ most x lo hi := by unfold most mx; (repeat' split) <;> omega
  refine sq_mono h0 (.inl ?_)
  unfold most mx
  (repeat' split) <;> omega
theorem sqP_mono {ρ : Int → Int → Int → Int} {l m : List Place} {n : Nat} (h : ∀ k, k < n → ruleP ρ (l.getD k (0, 0, 0)) * ruleP ρ (l.getD k (0, 0, 0)) ≤ ruleP ρ (m.getD k (0, 0, 0)) * ruleP ρ (m.getD k (0, 0, 0))) : ∀ k, k ≤ n → sqP ρ l k ≤ sqP ρ m k
  | 0, _ => by simp [sqP]
  | k + 1, hk => by
    have := sqP_mono h k (by omega)
    have := h k (by omega)
    rw [sqP, sqP]; omega
theorem finer {w : Int} {cuts : List (List Int)} {v q : List Int} {d : Nat} (hv : I16s v) (hq : I16s q) (hr : I16r cuts) (h : codeErr w cuts v = 0) (hd : d < manyOf cuts) (hg : gaugeErr w cuts (codeOut w cuts v) q = 0) :
    gaugeErr w (cuts.map (fewC d)) (codeOut w (cuts.map (fewC d)) v) q = 0 ∧
    gLow w (cuts.map (fewC d)) (codeOut w (cuts.map (fewC d)) v) q ≤ gLow w cuts (codeOut w cuts v) q ∧ gHigh w cuts (codeOut w cuts v) q ≤ gHigh w (cuts.map (fewC d)) (codeOut w (cuts.map (fewC d)) v) q := by
  have ho := codeOut_octets (w := w) (cuts := cuts) (v := v)
  obtain ⟨e1, e2, e3⟩ := gauge_ok ho hg
  have h' := few_codeErr h hd
  obtain ⟨b0, bf, bl, bi⟩ := own_box hv h
  obtain ⟨b0', bf', bl', bi'⟩ := own_box hv h'
  obtain ⟨h1, h2, h3⟩ := codeErr_zero.1 h
  have hrows := book_rows h1
  have hg' : gaugeErr w (cuts.map (fewC d)) (codeOut w (cuts.map (fewC d)) v) q = 0 := by
    unfold gaugeErr; rw [if_neg (by simpa using few_codeErr e1 hd)]; exact b0'
  have hul := turnL_length (v := q) (w := w.toNat)
  have hvl := turnL_length (v := v) (w := w.toNat)
  have hpl : placesOut w cuts (codeOut w cuts v) q = placesL (turnL q w.toNat) (boxL cuts (codeOut w cuts v)) (boxH cuts (codeOut w cuts v)) := by unfold placesOut; rw [if_pos hg]
  have hpl' : placesOut w (cuts.map (fewC d)) (codeOut w (cuts.map (fewC d)) v) q = placesL (turnL q w.toNat) (boxL (cuts.map (fewC d)) (codeOut w (cuts.map (fewC d)) v)) (boxH (cuts.map (fewC d)) (codeOut w (cuts.map (fewC d)) v)) := by unfold placesOut; rw [if_pos hg']
  have hB := box_facts ho b0
  have hB' := box_facts (codeOut_octets (w := w) (cuts := cuts.map (fewC d)) (v := v)) b0'
  have key : ∀ k, k < q.length → lowAt (cuts.map (fewC d)) (codeOut w (cuts.map (fewC d)) v) k ≤ lowAt cuts (codeOut w cuts v) k ∧ highAt cuts (codeOut w cuts v) k ≤ highAt (cuts.map (fewC d)) (codeOut w (cuts.map (fewC d)) v) k ∧ lowAt cuts (codeOut w cuts v) k ≤ highAt cuts (codeOut w cuts v) k := by
    intro k hk
    obtain ⟨s1, s2, s3⟩ := hB.span k (by omega)
    obtain ⟨t1, t2, t3⟩ := hB'.span k (by omega)
    rw [t1, t2]
    have c1 : codeOut w cuts v = codeL cuts (turnL v w.toNat) := by unfold codeOut; rw [if_pos h]
    have c2 : codeOut w (cuts.map (fewC d)) v = codeL (cuts.map (fewC d)) (turnL v w.toNat) := by unfold codeOut; rw [if_pos h']
    have g1 : ((codeOut w cuts v).getD k 0).toNat = cellOf (cuts.getD k []) ((turnL v w.toNat).getD k 0) := by rw [c1, codeL_getD (by omega)]; unfold cellAt; exact Int.toNat_natCast _
    have g2 : ((codeOut w (cuts.map (fewC d)) v).getD k 0).toNat = cellOf (fewC d (cuts.getD k [])) ((turnL v w.toNat).getD k 0) := by
      rw [c2, codeL_getD (by omega)]; unfold cellAt; rw [few_getD (by omega)]; exact Int.toNat_natCast _
    obtain ⟨r1, r2⟩ := hrows _ (getD_mem (d := []) (show k < cuts.length by omega))
    have := few_span (d := d) r2 (hr.getD k) (by omega) ((turnL v w.toNat).getD k 0)
    rw [g2, few_getD (by omega)]
    refine ⟨?_, ?_, s3⟩
    · rw [s1, g1]; exact this.1
    · rw [s2, g1]; exact this.2
  have hk : ∀ k, k < q.length → (placesL (turnL q w.toNat) (boxL cuts (codeOut w cuts v)) (boxH cuts (codeOut w cuts v))).getD k (0, 0, 0) = ((turnL q w.toNat).getD k 0, lowAt cuts (codeOut w cuts v) k, highAt cuts (codeOut w cuts v) k) := by
    intro k hk
    rw [placesL_getD (by omega)]
    unfold placeAt
    rw [(boxL_get (by omega)).1, (boxL_get (by omega)).2]
  have hk' : ∀ k, k < q.length → (placesL (turnL q w.toNat) (boxL (cuts.map (fewC d)) (codeOut w (cuts.map (fewC d)) v)) (boxH (cuts.map (fewC d)) (codeOut w (cuts.map (fewC d)) v))).getD k (0, 0, 0) = ((turnL q w.toNat).getD k 0, lowAt (cuts.map (fewC d)) (codeOut w (cuts.map (fewC d)) v) k, highAt (cuts.map (fewC d)) (codeOut w (cuts.map (fewC d)) v) k) := by
    intro k hk
    rw [placesL_getD (by omega)]
    unfold placeAt
    rw [(boxL_get (by omega)).1, (boxL_get (by omega)).2]
  refine ⟨hg', ?_, ?_⟩
  · unfold gLow
    rw [hpl, hpl', placesL_length, placesL_length, hul]
    refine sqP_mono (n := q.length) (fun k hkl => ?_) _ (Nat.le_refl _)
    rw [hk k hkl, hk' k hkl]
    obtain ⟨a, b, c⟩ := key k hkl
    exact far_wide a b
  · unfold gHigh
    rw [hpl, hpl', placesL_length, placesL_length, hul]
    refine sqP_mono (n := q.length) (fun k hkl => ?_) _ (Nat.le_refl _)
    rw [hk k hkl, hk' k hkl]
    obtain ⟨a, b, c⟩ := key k hkl
    exact most_wide c a b
end Go.Proofs.Ytfmeiapglpphpaa.T
